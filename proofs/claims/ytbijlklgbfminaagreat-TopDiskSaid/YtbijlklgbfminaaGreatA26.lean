import Derived.Test.YtbijlklgbfminaaGreatA25
set_option linter.unusedVariables false
set_option linter.unusedSimpArgs false
section
namespace AN
open Go Go.Kx
def Pl:BitVec 32:=0x82F63B78#32
def Cw (v:BitVec 32) (c:Bool):BitVec 32:=if(v.getLsbD 0 ^^ c)=true then(v>>>1)^^^Pl else v>>>1
def xa (v:BitVec 32) (c:Nat):Nat->BitVec 32
 | 0=>v
 |i+1=>Cw (xa v c i) (c.testBit i)
def J5 (v:BitVec 32) (c:Int):BitVec 32:=xa v c.toNat 8
def wu (v:BitVec 32) (l:List Int):BitVec 32:=l.foldl J5 v
def OH (l:List Int):BitVec 32:= ~~~ wu (BitVec.allOnes 32) l
theorem Bb (v:BitVec 32) (a b:List Int):wu v (a++b)=wu (wu v a) b:=by simp[wu]
theorem SY (v:BitVec 32):BitVec.ofInt 32 (v.toNat:Int)=v:=by simp
theorem J6 {n:Nat} (h:n< 2 ^ 32):IntKind.u32.wrap (n:Int)=n:=by
 simp only[IntKind.wrap,IntKind.bits,IntKind.signed,Bool.false_and,Bool.false_eq_true,if_false]
 omega
theorem J7 (v u:BitVec 32):wb .u32 (v.toNat:Int) (u.toNat:Int)=((v^^^u).toNat:Int):=by
 show IntKind.u32.wrap ((BitVec.ofInt 32 (v.toNat:Int)^^^BitVec.ofInt 32 (u.toNat:Int)).toNat:Int)=_
 rw[SY,SY,J6 (BitVec.isLt _)]
theorem T0 (v:BitVec 32):wb .u32 (v.toNat:Int) 2197175160=((v^^^Pl).toNat:Int):=J7 v Pl
theorem Pp (v:BitVec 32):g8 .u32 (v.toNat:Int) 1=((v>>>1).toNat:Int):=by
 simp only[g8,IntKind.bits]
 show((v.toNat:Int)).fdiv (2 ^ 1)=_
 rw[Int.fdiv_eq_ediv_of_nonneg _ (by decide)]
 simp[Nat.shiftRight_eq_div_pow]
theorem T3 (v:BitVec 32):Ni .u32 (v.toNat:Int)=((~~~ v).toNat:Int):=by
 have:Ni .u32 (v.toNat:Int)=wb .u32 ((BitVec.allOnes 32).toNat:Int) (v.toNat:Int):=rfl
 rw[this,J7,BitVec.allOnes_xor]
theorem SZ (v:BitVec 32):IntKind.i64.wrap (v.toNat:Int)=v.toNat:=bA (by omega) (by have:=v.isLt;omega)
theorem T4 (v:BitVec 32):(kE .u32 (v.toNat:Int) 1==1)=v.getLsbD 0:=by
 have:kE .u32 (v.toNat:Int) 1=((v&&&1#32).toNat:Int):=by
  show IntKind.u32.wrap ((BitVec.ofInt 32 (v.toNat:Int)&&&BitVec.ofInt 32 1).toNat:Int)=_
  rw[SY,J6 (BitVec.isLt _)];rfl
 rw[this]
 have a:(v&&&1#32).toNat=v.toNat% 2:=by
  rw[BitVec.toNat_and];exact Nat.and_one_is_mod _
 rw[a]
 have b:v.getLsbD 0=decide (v.toNat% 2=1):=by
  simp[BitVec.getLsbD,Nat.testBit_zero]
 rw[b]
 rcases Nat.mod_two_eq_zero_or_one v.toNat with h|h<;>simp[h]
theorem MB {c:Int} {i:Nat} (b:0<=c) (d:c<=255) (hi:i< 8):g8 .u32 (IntKind.u32.wrap c) (i:Int)=(((BitVec.ofNat 32 c.toNat)>>>i).toNat:Int):=by
 obtain⟨n,rfl⟩:=Int.eq_ofNat_of_zero_le b
 have a:n< 2 ^ 32:=by omega
 rw[J6 a]
 simp only[g8,IntKind.bits,Int.toNat_natCast]
 rw[Nat.min_eq_left (by omega),Int.fdiv_eq_ediv_of_nonneg _ (by exact_mod_cast Nat.zero_le _)]
 rw[BitVec.toNat_ushiftRight,BitVec.toNat_ofNat,Nat.mod_eq_of_lt a,Nat.shiftRight_eq_div_pow]
 push_cast;rfl
theorem OI {v:BitVec 32} {c:Int} {i:Nat} (a:0<=c) (b:c<=255) (hi:i< 8):
 (kE .u32 (wb .u32 (v.toNat:Int) (g8 .u32 (IntKind.u32.wrap c) (i:Int))) 1==1)=(v.getLsbD 0 ^^ c.toNat.testBit i):=by
 rw[MB a b hi,J7,T4,BitVec.getLsbD_xor]
 congr 1
 simp[BitVec.getLsbD_ushiftRight,BitVec.getLsbD_ofNat]
 omega
end AN
end
section
namespace KM
abbrev Bs:=List Int
def le:Nat->Int->Bs
 | 0,_=>[]
 |w+1,n=>n% 256::le w (n/ 256)
def val:Bs->Int
 |[]=>0
 |x::l=>x+256*val l
def num (b:Bs) (k w:Nat):Int:=val ((b.drop k).take w)
def pad (n:Nat) (l:Bs):Bs:=l++List.replicate (n-l.length) 0
def now {α:Type} (n:Nat) (k:Nat->α):α:=match n with
 | 0=>k 0
 |m+1=>k (m+1)
theorem MC {α:Type} (n:Nat) (k:Nat->α):now n k=k n:=by cases n<;>rfl
def OJ (x c:Nat):Nat:=bif Nat.beq ((x^^^c)% 2) 1 then(x/ 2)^^^2197175160 else x/ 2
def FM (x c:Nat):Nat->Nat
 | 0=>x
 |i+1=>now (OJ x c) λy=>FM y (c/ 2) i
def J8 (x:Nat):Bs->Nat
 |[]=>x
 |c::l=>now (FM x c.toNat 8) λy=>J8 y l
def oA (b:Bs):Int:=((4294967295-J8 4294967295 b:Nat):Int)
theorem Qp (v:BitVec 32) (c:Nat):OJ v.toNat c=(AN.Cw v (c.testBit 0)).toNat:=by
 have e1:((v.toNat^^^c)% 2=1)↔((v.getLsbD 0 ^^ c.testBit 0)=true):=by
  rw[BitVec.getLsbD,←Nat.testBit_xor,Nat.testBit_zero];simp
 unfold OJ AN.Cw
 by_cases h:(v.toNat^^^c)% 2=1
 ·rw[if_pos (e1.1 h),h]
  show v.toNat/ 2^^^2197175160=_
  rw[BitVec.toNat_xor,BitVec.toNat_ushiftRight,Nat.shiftRight_eq_div_pow];rfl
 ·rw[if_neg (λg=>h (e1.2 g))]
  have:Nat.beq ((v.toNat^^^c)% 2) 1=false:=Bool.eq_false_iff.2 λe=>h (Nat.eq_of_beq_eq_true e)
  rw[this,BitVec.toNat_ushiftRight,Nat.shiftRight_eq_div_pow];rfl
theorem OK (c:Nat) (v:BitVec 32) (n:Nat):∀i,FM (AN.xa v c n).toNat (c/ 2 ^ n) i=(AN.xa v c (n+i)).toNat:=by
 intro i
 induction i generalizing n with
 |zero=>rfl
 |succ i a=>
  have e:(c/ 2 ^ n).testBit 0=c.testBit n:=by rw[Nat.testBit_div_two_pow];simp
  rw[FM,MC,Qp,e,show c/ 2 ^ n/ 2=c/ 2 ^ (n+1) by rw[Nat.div_div_eq_div_mul,Nat.pow_succ]]
  have:=a (n+1)
  rw[show n+(i+1)=n+1+i by omega];exact this
theorem Qq (l:Bs):∀v:BitVec 32,J8 v.toNat l=(AN.wu v l).toNat:=by
 induction l with
 |nil=>intro v;rfl
 |cons c l a=>
  intro v
  have:=OK c.toNat v 0 8
  simp only[AN.xa,Nat.pow_zero,Nat.div_one,Nat.zero_add] at this
  rw[J8,MC,this]
  exact a (AN.J5 v c)
theorem Sa (b:Bs):oA b=((AN.OH b).toNat:Int):=by
 have:=Qq b (BitVec.allOnes 32)
 rw[oA,show(4294967295:Nat)=(BitVec.allOnes 32).toNat from rfl,this,AN.OH,BitVec.toNat_not];rfl
def closed (b:Bs):Bs:=b++le 4 (oA b)
def bE (n lo hi:Int):Bool:=decide (lo<=n)&&decide (n<=hi)
theorem bY {n lo hi:Int}:bE n lo hi=true↔lo<=n/\n<=hi:=by simp[bE]
theorem bI:∀(w:Nat) (n:Int),(le w n).length=w
 | 0,_=>rfl
 |w+1,n=>by simp[le,bI w]
theorem Ix:∀(w:Nat) (n:Int),∀x∈le w n,0<=x/\x<=255
 | 0,_,x,h=>by simp[le] at h
 |w+1,n,x,h=>by
  simp only[le,List.mem_cons] at h
  rcases h with rfl|h
  ·omega
  ·exact Ix w _ x h
theorem MD:∀(w:Nat) (n:Int),0<=n->n< 256 ^ w->val (le w n)=n
 | 0,n,b,a=>by simp[val,le];simp at a;omega
 |w+1,n,b,a=>by
  have:n/ 256< 256 ^ w:=by
   rw[Int.pow_succ] at a
   exact Int.ediv_lt_of_lt_mul (by decide) a
  rw[le,val,MD w (n/ 256) (by omega) this];omega
theorem pf {n:Nat} {l:Bs} (h:l.length<=n):(pad n l).length=n:=by simp[pad];omega
theorem gB (b:Bs):(closed b).length=b.length+4:=by simp[closed,bI]
theorem AO (b:Bs):0<=oA b/\oA b<=4294967295:=by
 unfold oA;omega
abbrev bC:=Int×Int×Int
def bg (c:bC):Prop:=1<=c.1/\c.1<=64/\8<=c.2.1/\c.2.1<=32/\24<=c.2.2/\c.2.2<=64
def Cx (c:bC):Bool:=bE c.1 1 64&&bE c.2.1 8 32&&bE c.2.2 24 64
theorem wB {c:bC}:Cx c=true↔bg c:=by simp[Cx,bE,bg,and_assoc]
def cR (c:bC):Int:=(c.1+14)/ 15
def cD (c:bC):Int:=(c.2.1*5+106)/ 64
def base (c:bC):Int:=2+2*(cD c+2*cR c)
def all (c:bC):Int:=base c+c.2.1*c.2.2
def half (c:bC):Int:=(c.2.2- 2)/ 2
def bN (c:bC) (slot:Int):Int:=2+slot*cD c
def gC (c:bC) (aQ:Bool) (k slot:Int):Int:=2+2*(cD c+(if aQ then k+cR c else k))+slot
def bW (c:bC) (s:Int):Int:=base c+s*c.2.2
def CA (c:bC) (at_:Int):Bool:=bE at_ (base c) (all c- 1)
abbrev iY:=Int×Int×Int×Int
def cL (i:iY):Bool:=
 let b:=bE i.2.1 0 63
 if i.1=1∨i.1=5 then b&&i.2.2.1==0&&i.2.2.2==0
 else if i.1=2∨i.1=6 then b&&bE i.2.2.1 1 (64-i.2.1)&&i.2.2.2==0
 else if i.1=3 then i.2.1==0&&i.2.2.1==0&&bE i.2.2.2 1 2147483647
 else if i.1=4 then b&&i.2.2.1==0&&bE i.2.2.2 1 4095
 else if i.1=7 then i.2.1==0&&i.2.2.1==0&&bE i.2.2.2 0 31
 else false
def cN (i:iY):Bool:=cL i&&(i.1==1||i.1==4||i.1==5)
def iW (i:iY):Bs:=i.1::i.2.1::i.2.2.1::le 4 i.2.2.2
def iS (c:bC) (id aO:Int):Bs:=closed (pad 60 (75::83::c.1::c.2.1::c.2.2::(le 4 id++le 4 aO)))
def eG (c:bC) (id aO:Int):Bool:=Cx c&&bE id 0 2147483647&&bE aO 1 2147483647
def gT (b:Bs):Option (bC×Int×Int):=
 let c:bC:=(num b 2 1,num b 3 1,num b 4 1)
 if eG c (num b 5 4) (num b 9 4)&&iS c (num b 5 4) (num b 9 4)==b then some (c,num b 5 4,num b 9 4) else none
def cY (a b:Bs):Option ((bC×Int×Int)×Int):=
 match gT a,gT b with
 |some x,some y=>if y.2.2<=x.2.2 then some (x,0) else some (y,1)
 |some x,none=>some (x,0)
 |none,some y=>some (y,1)
 |none,none=>none
structure Rec where
 aO:Int
 dQ:Int
 prev:Int
 items:List iY
 blocks:List Bs
def dy (r:Rec):Bool:=bE r.aO 1 2147483647&&bE r.dQ 1 2147483647&&bE r.prev 0 4294967295&&bE r.items.length 1 6&&r.items.all cL&&r.blocks.length==r.items.countP cN&&r.blocks.all λb=>b.length==64
def rI (r:Rec):Bs:=pad 60 (75::82::(le 4 r.aO++le 4 r.dQ++le 4 r.prev++[(r.items.length:Int),(r.blocks.length:Int)]++r.items.flatMap iW))
def gU (r:Rec):Int:=oA (rI r++r.blocks.flatten)
def oz (r:Rec):List Bs:=(rI r++le 4 (gU r))::r.blocks
def wv (r:Rec):Bs:=(oz r).flatten
def ly (b:Bs):Int:=if num b 0 1=75/\num b 1 1=82/\1<=num b 14 1/\num b 14 1<=6/\num b 15 1<=num b 14 1 then 1+num b 15 1 else 0
def eO (b:Bs) (k:Nat):Nat->List iY
 | 0=>[]
 |n+1=>(num b k 1,num b (k+1) 1,num b (k+2) 1,num b (k+3) 4)::eO b (k+7) n
def chunks (b:Bs):Nat->List Bs
 | 0=>[]
 |n+1=>b.take 64::chunks (b.drop 64) n
def AP (b:Bs):Option (Rec×Int):=
 let r:Rec:=⟨num b 2 4,num b 6 4,num b 10 4,eO b 16 (num b 14 1).toNat,chunks (b.drop 64) (num b 15 1).toNat⟩
 if dy r&&wv r==b then some (r,gU r) else none
def dJ (l:List iY):Option Int:=(l.find? λi=>i.1==7).map λi=>i.2.2.2
def BG (vh aO dQ prev:Int):Bool:=bE vh 0 31&&bE aO 1 2147483647&&bE dQ 1 2147483647&&bE prev 0 4294967295
def xc (vh aO dQ prev:Int):Bs:=closed (pad 60 (75::72::vh::(le 4 aO++le 4 dQ++le 4 prev)))
def headD (b:Bs):Option (Int×Int×Int×Int):=
 if BG (num b 2 1) (num b 3 4) (num b 7 4) (num b 11 4)&&xc (num b 2 1) (num b 3 4) (num b 7 4) (num b 11 4)==b then some (num b 2 1,num b 3 4,num b 7 4,num b 11 4) else none
def kP (l:List Int):Bool:=decide (l.length<=15)&&l.all λn=>bE n (-1) 4095
def xd (l:List Int):Bs:=closed (pad 60 (l.flatMap (le 4)))
def Cy (n:Int):Int:=if n=4294967295 then -1 else n
def oO (b:Bs) (k:Nat):Nat->List Int
 | 0=>[]
 |n+1=>Cy (num b k 4)::oO b (k+4) n
def ru (b:Bs):Option (List Int):=if kP (oO b 0 15)&&xd (oO b 0 15)==b then some (oO b 0 15) else none
abbrev Pos:=Int×Int×Int×Int×Int
abbrev cz:=Int×Int
def iT (c:bC) (p:Pos):Bool:=bE p.1 0 (c.2.1- 1)&&bE p.2.1 0 (c.2.2- 1)&&bE p.2.2.1 1 2147483647&&bE p.2.2.2.2 1 2147483647&&bE p.2.2.2.1 0 4294967295
structure jZ where
 gen:Int
 view:Int
 mode:Int
 aV:Int
 seq:Int
 done:Int
 pos:Pos
 lb:List Int
 lo:List Int
 cG:List cz
def iq (l:List Int) (n:Int):Bool:=(l.length:Int)==n&&l.all λx=>x==0||x==1
def wx (u:cz) (open_:Bool):Bool:=bE u.1 0 2&&bE u.2 0 2147483647&&(u.1==1)==open_
def ry (vh:Int):Nat->List cz->Bool
 |_,[]=>true
 |k,u::l=>wx u ((k:Int)==vh)&&ry vh (k+1) l
def iU (c:bC) (r:jZ):Bool:=
 bE r.gen 1 2147483647&&bE r.view 1 2147483647&&(r.mode==1||r.mode==2)&&bE r.aV 0 2147483647&&bE r.seq 0 2147483647&&bE r.done 0 r.seq&&
 iT c r.pos&&iq r.lb (cR c)&&iq r.lo (cR c)&&(r.cG.length:Int)==c.2.1&&ry r.pos.1 0 r.cG
def ja:List Int->Int
 |[]=>0
 |x::l=>x+2*ja l
def gp:Nat->Int->List Int
 | 0,_=>[]
 |k+1,n=>n% 2::gp k (n/ 2)
def wy (u:cz):Bs:=u.1::le 4 u.2
def AQ (r:jZ):Bs:=75::67::(le 4 r.gen++le 4 r.view++[r.mode]++le 4 r.aV++le 4 r.seq++le 4 r.done++[r.pos.1,r.pos.2.1]++le 4 r.pos.2.2.1++le 4 r.pos.2.2.2.1++le 4 r.pos.2.2.2.2++[ja r.lb,ja r.lo]++r.cG.flatMap wy)
def tE (c:bC) (r:jZ):Bs:=closed (pad (64*(cD c).toNat- 4) (AQ r))
def kt (b:Bs) (k:Nat):Nat->List cz
 | 0=>[]
 |n+1=>(num b k 1,num b (k+1) 4)::kt b (k+5) n
def ph (c:bC) (b:Bs):Option jZ:=
 let r:jZ:=⟨num b 2 4,num b 6 4,num b 10 1,num b 11 4,num b 15 4,num b 19 4,(num b 23 1,num b 24 1,num b 25 4,num b 29 4,num b 33 4),gp (cR c).toNat (num b 37 1),gp (cR c).toNat (num b 38 1),kt b 39 c.2.1.toNat⟩
 if iU c r&&tE c r==b then some r else none
def vJ:Option jZ->Option jZ->Option (jZ×Int)
 |some x,some y=>if y.gen<=x.gen then some (x,0) else some (y,1)
 |some x,none=>some (x,0)
 |none,some y=>some (y,1)
 |none,none=>none
def kh (c:bC) (a b:Bs):Option (jZ×Int):=vJ (ph c a) (ph c b)
theorem AR {c:bC} {a b:Bs} {u v:Option jZ} (e1:ph c a=u) (e2:ph c b=v):kh c a b=vJ u v:=congr (congrArg vJ e1) e2
structure pG where
 kind:Int
 view:Int
 seq:Int
 block:Int
 count:Int
 aV:Int
 done:Int
 data:Bs
def dK (f:pG):Bool:=
 bE f.view 1 2147483647&&
 (if f.kind=1 then bE f.seq 1 2147483647&&bE f.block 0 63&&f.data.length==64&&f.count==0&&f.aV==0&&f.done==0
 else if f.kind=2 then bE f.seq 1 2147483647&&bE f.block 0 63&&bE f.count 1 (64-f.block)&&f.aV==0&&f.done==0&&f.data.length==0
 else if f.kind=3 then bE f.seq 1 2147483647&&bE f.aV 1 2147483647&&f.block==0&&f.count==0&&f.done==0&&f.data.length==0
 else if f.kind=8 then bE f.seq 0 2147483647&&bE f.aV 0 2147483647&&bE f.done 0 f.seq&&f.block==0&&f.count==0&&f.data.length==0
 else if f.kind=9 then f.seq==0&&f.block==0&&f.count==0&&f.aV==0&&f.done==0&&f.data.length==0
 else false)
def mu (f:pG):Bs:=75::70::f.kind::(le 4 f.view++le 4 f.seq++[f.block,f.count]++le 4 f.aV++le 4 f.done++f.data)
def cC (f:pG):Bs:=closed (mu f)
def vY (b:Bs):Option pG:=
 let f:pG:=⟨num b 2 1,num b 3 4,num b 7 4,num b 11 1,num b 12 1,num b 13 4,num b 17 4,(b.drop 21).take (b.length- 25)⟩
 if dK f&&cC f==b then some f else none
structure iV where
 kind:Int
 block:Int
 count:Int
 aV:Int
 data:Bs
def dY (view seq:Int) (o:iV):pG:=⟨o.kind,view,seq,o.block,o.count,o.aV,0,o.data⟩
def gb (f:pG):iV:=⟨f.kind,f.block,f.count,f.aV,f.data⟩
def fD (x:Int):Bs:=(List.range 64).map λ(k:Nat)=>(x% 256+(k:Int))% 256
theorem tQ (x:Int):(fD x).length=64:=by simp[fD]
abbrev gq:={l:List Int // l.length=64}
structure Dk where
 safe:List gq
 now:List gq
 held:List (Int×gq)
 dL:List Bool
 lf:Int
 iB:Int
 off:Bool
def Dk.act (D:Dk):Dk×Bool:=
 if D.off||D.lf==0 then({D with iB:=D.iB+1,off:=true},false) else({D with iB:=D.iB+1,off:=false,lf:=max (D.lf- 1) (-1)},true)
def pj:gq:=⟨List.replicate 64 0,by simp⟩
def fresh (n:Nat):Dk:=⟨List.replicate n pj,List.replicate n pj,[],List.replicate n false,-1,0,false⟩
def Dk.write (D:Dk) (i:Nat) (b:gq):Dk:=if D.act.2 then{D.act.1 with held:=D.held++[((i:Int),b)],now:=D.now.set i b} else D.act.1
def Dk.read (D:Dk) (i:Nat):Int:=if D.off then 3 else if D.dL.getD i false then 4 else 0
def lN (s:List gq) (l:List (Int×gq)):List gq:=l.foldl (λs w=>s.set w.1.toNat w.2) s
def Dk.flush (D:Dk):Dk:=if D.act.2 then{D.act.1 with safe:=lN D.safe D.held,held:=[]} else D.act.1
def CB (a new:gq) (n:Nat):gq:=⟨new.1.take n++a.1.drop n,by simp[a.2,new.2];omega⟩
def fj (m:List Int) (k:Nat):Int:=if k<m.length then m.getD k 0% 192 else 0
def mX (m:List Int) (st:List gq×Bool) (k:Nat) (w:Int×gq):List gq×Bool:=
 if fj m k% 3=1 then(st.1.set w.1.toNat w.2,st.2)
 else if fj m k% 3=2/\st.2=false then(st.1.set w.1.toNat (CB (st.1.getD w.1.toNat pj) w.2 (fj m k/ 3).toNat),true) else st
def dV (m:List Int) (safe:List gq) (held:List (Int×gq)):Nat->List gq×Bool
 | 0=>(safe,false)
 |k+1=>match held[k]? with
  |some w=>mX m (dV m safe held k) k w
  |none=>dV m safe held k
def Dk.ku (D:Dk) (m:List Int):Dk:=⟨(dV m D.safe D.held D.held.length).1,(dV m D.safe D.held D.held.length).1,[],D.dL,-1,0,false⟩
end KM
end
section
namespace KM
def ya {α:Type} (l:List α) (k:Int):Bool:=decide (0<=k)&&decide (k<l.length)
def dU {α:Type} (d:α) (l:List α) (k:Int):α:=if 0<=k then l.getD k.toNat d else d
def vZ (l:List cz) (k:Int) (st:Int):List cz:=l.set k.toNat (st,(dU (0,0) l k).2)
def AS (l:List cz) (k:Int) (a:Int):List cz:=l.set k.toNat ((dU (0,0) l k).1,a)
def jA (l:List cz) (k:Int):Bool:=ya l k&&(dU (0,0) l k).1==0
def pk (l:List cz) (k:Int):List cz:=if jA l k then vZ l k 1 else l
def tn (l:List cz) (v:List Int) (k:Int):List Int:=if jA l k then v.set k.toNat 0 else v
def qj (l:List cz) (k:Int):List cz:=if ya l k&&(dU (0,0) l k).1==1 then vZ l k 2 else l
def gr (l:List cz) (k a:Int):List cz:=if ya l k&&(decide (0<=a)&&decide (a<=2147483647)) then AS l k a else l
def vc (x b:Int):Int:=if 2147483647-x<b then 2147483647 else max (x+b) 0
def lF (c:bC) (v:List Int) (at' b:Int):List Int:=if base c<=at'/\at'<all c then v.set ((at'-base c)/c.2.2).toNat (vc (dU 0 v ((at'-base c)/c.2.2)) b) else v
def ki (l:List cz) (v:List Int) (k:Nat):Bool:=(l.getD k (0,0)).1==2&&v.getD k 0==0
def dm (l:List cz) (v:List Int):Nat->List cz
 | 0=>l
 |k+1=>if ki l v k then(dm l v k).set k (0,(l.getD k (0,0)).2) else dm l v k
def AT (l:List cz) (v:List Int):List cz:=dm l v l.length
def nP (l:List cz) (v:List Int) (k:Nat):List Int:=(List.range k).filterMap λ(i:Nat)=>if ki l v i then some (i:Int) else none
def J9 (l:List cz) (v:List Int):List Int:=nP l v l.length
def dZ (l:List cz):Nat:=l.countP λu=>u.1==0
def nQ (l:List cz):Int:=if l.findIdx (λu=>u.1==0)<l.length then(l.findIdx (λu=>u.1==0):Int) else -1
def cA (l:List cz) (spare:Bool):Int:=if !spare&&decide (dZ l<=2) then -1 else nQ l
structure Tb where
 l:List cz
 v:List Int
def Tb.pn (t:Tb) (k:Int):Tb:=⟨pk t.l k,tn t.l t.v k⟩
section
variable {T:Type} (ne:T->T->Bool)
def zO (l:List T) (k:Int) (v:T):Bool:=decide (0<=k/\k<l.length)&&(match l[k.toNat]? with|some w=>ne w v|none=>false)
def wz (l:List T) (k:Int) (v:T):List T:=if zO ne l k v then l.set k.toNat v else l
def zP (per:Int) (l:List T) (d:List Bool) (k:Int) (v:T):List Bool:=if zO ne l k v then d.set (k/per).toNat true else d
end
def pH (n per:Int):Int:=(n+per- 1)/per
def qO (d:List Bool) (k:Nat):List Int:=(List.range k).filterMap λ(i:Nat)=>if d.getD i false then some (i:Int) else none
def Sb (d:List Bool):List Int:=qO d d.length
def cO {T:Type} (l:List T) (per:Int) (d:List Bool) (k:Int):List T:=if 0<=k/\k<d.length then(l.drop (k*per).toNat).take per.toNat else[]
def vK (a b:Int):Bool:=a != b
def dz (l:List Int) (b:Int):Int:=if 0<=b/\b<l.length then l.getD b.toNat 0 else 0
def gone (a at':Int):Int:=if a==at' then 0 else(if a< 0 then 0 else a)
structure Im where
 l0:List Int
 d0:List Bool
 l1:List Int
 d1:List Bool
def Im.put (M:Im) (aQ:Bool) (b at':Int):Im:=if aQ then{M with l1:=wz vK M.l1 b at',d1:=zP vK 15 M.l1 M.d1 b at'} else{M with l0:=wz vK M.l0 b at',d0:=zP vK 15 M.l0 M.d0 b at'}
def Im.fq (M:Im) (aQ:Bool):List Int:=if aQ then M.l1 else M.l0
def Im.cW (M:Im) (aQ:Bool):List Bool:=if aQ then M.d1 else M.d0
def vj (n:Nat):Im:=⟨List.replicate n 0,List.replicate (pH n 15).toNat false,List.replicate n (-1),List.replicate (pH n 15).toNat false⟩
def gl (z:Int):List Int:=if 0<z then[z] else[]
def AU (aQ:Bool) (b:Int) (M:Im):Nat->Im×List Int
 | 0=>(M,[])
 |i+1=>((AU aQ b M i).1.put aQ (b+i) 0,(AU aQ b M i).2++gl (gone (dz ((AU aQ b M i).1.fq aQ) (b+i)) 0))
def Cz (r:Im×List Int) (i:Nat):Im×List Int:=
 if dz r.1.l1 i= -1 then r else((r.1.put false i (dz r.1.l1 i)).put true i (-1),r.2++gl (gone (dz r.1.l0 i) (dz r.1.l1 i)))
def gD (M:Im):Nat->Im×List Int
 | 0=>(M,[])
 |i+1=>Cz (gD M i) i
def jK (M:Im):Nat->Im×List Int
 | 0=>(M,[])
 |i+1=>((jK M i).1.put true i (-1),(jK M i).2++gl (gone (dz (jK M i).1.l1 i) (-1)))
def Im.nR (M:Im):Im×List Int:=gD M M.l1.length
def Im.forget (M:Im):Im×List Int:=jK M M.l1.length
def Im.clean (M:Im):Im:={M with d0:=List.replicate M.d0.length false,d1:=List.replicate M.d1.length false}
def tq (l:List Int):Nat:=l.countP (λx=>x != -1)
def rp (i:Nat) (x:Int):List (Int×Int):=if 0<x then[((i:Int),x)] else[]
def vd (l0 l1:List Int):Nat->List (Int×Int)
 | 0=>[]
 |i+1=>vd l0 l1 i++rp i (dz l0 i)++rp i (dz l1 i)
def Im.refs (M:Im):List (Int×Int):=vd M.l0 M.l1 M.l0.length
def Im.has (M:Im) (b n:Int):Bool:=decide (1<=n)&&decide (n<=M.l0.length)&&(decide (0<=b)&&decide (b<=M.l0.length-n))
def Im.lay (M:Im) (aQ:Bool) (b at_:Int):Im:=if M.has b 1&&bE at_ 1 4095 then M.put aQ b at_ else M
def Im.cut (M:Im) (aQ:Bool) (b n:Int):Im×List Int:=if M.has b n then AU aQ b M n.toNat else(M,[])
def Im.move (M:Im) (b a at_:Int):Im:=
 if M.has b 1&&decide (1<=a)&&bE at_ 1 4095 then(if dz M.l0 b=a then M.put false b at_ else if dz M.l1 b=a then M.put true b at_ else M) else M
def Im.load (M:Im) (aQ:Bool) (k:Nat) (refs:List Int):Im:=
 if aQ then{M with l1:=M.l1.take (k*15)++refs++M.l1.drop (k*15+refs.length),d1:=M.d1.set k false}
 else{M with l0:=M.l0.take (k*15)++refs++M.l0.drop (k*15+refs.length),d0:=M.d0.set k false}
def xf (b:Bs):gq:=if h:b.length=64 then⟨b,h⟩ else pj
def Dk.wr (D:Dk) (at_:Int) (bs:Bs):Dk×Int:=if(0<=at_/\at_<D.now.length)/\bs.length=64 then(D.write at_.toNat (xf bs),if D.act.2 then 0 else 3) else(D,1)
def Dk.rd (D:Dk) (at_:Int):Bs×Int:=if 0<=at_/\at_<D.now.length then(if D.read at_.toNat=0 then((D.now.getD at_.toNat pj).1,0) else([],D.read at_.toNat)) else([],1)
def Dk.fl (D:Dk):Dk×Int:=(D.flush,if D.act.2 then 0 else 3)
def Dk.put (D:Dk) (at_:Int) (bs:Bs):Dk:=(D.wr at_ bs).1
def Dk.kQ (D:Dk) (at_:Int):List Bs->Dk
 |[]=>D
 |b::l=>(D.put at_ b).kQ (at_+1) l
def Dk.sec (D:Dk) (at_:Int):Bs:=(D.rd at_).1
def Dk.gw (D:Dk) (at_:Int):Nat->Bs
 | 0=>[]
 |n+1=>D.sec at_++D.gw (at_+1) n
structure Wr where
 p:Pos
 items:List iY
 blocks:List Bs
structure Sn where
 mode:Int
 view:Int
 aV:Int
 seq:Int
 done:Int
 aO:Int
 gen:Int
 slot:Int
 lb:List Int
 lo:List Int
structure St where
 c:bC
 d:Dk
 t:Tb
 m:Im
 w:Wr
 n:Sn
def behind (off blocks:Int):Int:=max off 1+1+blocks
def fits (c:bC) (off items blocks:Int):Bool:=decide (items<=6)&&decide (behind off blocks<c.2.2)
def St.first (s:St):Int:=bW s.c s.w.p.1+behind s.w.p.2.1 0
def St.lG (s:St) (items:List iY) (blocks:List Bs):St:=
 let p:=s.w.p
 let r:Rec:=⟨p.2.2.2.2,p.2.2.1,p.2.2.2.1,items,blocks⟩
 {s with d:=s.d.kQ (bW s.c p.1+p.2.1) (oz r),t:={s.t with l:=gr s.t.l p.1 p.2.2.1},w:={s.w with p:=(p.1,behind p.2.1 blocks.length,p.2.2.1+1,gU r,p.2.2.2.2)}}
def St.bZ (s:St):St:=
 let p:=s.w.p
 if 0<p.2.1 then s else{s with d:=s.d.put (bW s.c p.1) (xc p.1 p.2.2.2.2 p.2.2.1 p.2.2.2.1),w:={s.w with p:=(p.1,1,p.2.2.1,p.2.2.2.1,p.2.2.2.2)}}
def St.bare (s:St):St:={s with w:={s.w with items:=[],blocks:=[]}}
def St.emit (s:St):St:=if s.w.items.isEmpty then s else(s.bZ.lG s.w.items s.w.blocks).bare
def St.tr (s:St) (a g:Int):St:={s with t:={s.t with l:=qj s.t.l a},w:={s.w with p:=(g,0,s.w.p.2.2)}}
def St.dX (s:St) (g:Int):St:=((s.lG [(7,0,0,g)] []).tr s.w.p.1 g).bZ
def St.room (s:St) (blocks:Int) (spare:Bool):St×Int:=
 if fits s.c s.w.p.2.1 (s.w.items.length+1) (s.w.blocks.length+blocks) then(s,0)
 else if fits s.c (if s.w.items.isEmpty then s.w.p.2.1 else behind s.w.p.2.1 s.w.blocks.length) 1 blocks then(s.emit,0)
 else if cA s.t.l spare< 0 then(s,6)
 else(({s with t:=s.t.pn (cA s.t.l spare)}:St).emit.dX (cA s.t.l spare),0)
def St.hold (s:St) (i:iY) (b:Option Bs):St:={s with w:={s.w with items:=s.w.items++[i],blocks:=s.w.blocks++b.toList}}
def St.add (s:St) (i:iY) (b:Option Bs) (spare:Bool):St×Int×Int:=
 let r:=s.room (if b.isSome then 1 else 0) spare
 if r.2=0 then(r.1.hold i b,if b.isSome then r.1.first+r.1.w.blocks.length else 0,0) else(r.1,0,r.2)
def wC (c:bC) (v:List Int) (l:List Int):List Int:=l.foldl (λv x=>if 0<x then lF c v x (-1) else v) v
def St.live (s:St) (at_:Int) (l:List Int):St:={s with t:={s.t with v:=wC s.c (lF s.c s.t.v at_ 1) l}}
def St.has (s:St) (b n:Int):Bool:=s.m.has b n
def St.asks (s:St) (mode:Int) (may:Bool):Int:=if mode≠0/\s.n.mode≠mode then 7 else if !may then 1 else if s.d.off then 3 else 0
def St.lay (s:St) (aQ:Bool) (b:Int) (data:Bs):St×Int:=
 let e:=s.asks (if aQ then 1 else 2) (s.has b 1&&data.length==64)
 if e≠0 then(s,e) else
 let r:=s.add (if aQ then 1 else 5,b,0,0) (some data) false
 if r.2.2≠0 then(r.1,r.2.2) else
 let s1:={r.1 with n:=if aQ then{r.1.n with seq:=r.1.n.seq+1} else r.1.n}
 (({s1 with m:=s1.m.lay aQ b r.2.1}:St).live r.2.1 [gone (dz (s1.m.fq aQ) b) r.2.1],0)
def St.cut (s:St) (aQ:Bool) (b n:Int):St×Int:=
 let e:=s.asks (if aQ then 1 else 2) (s.has b n)
 if e≠0 then(s,e) else
 let r:=s.add (if aQ then 2 else 6,b,n,0) none false
 if r.2.2≠0 then(r.1,r.2.2) else
 let s1:={r.1 with n:=if aQ then{r.1.n with seq:=r.1.n.seq+1} else r.1.n}
 (({s1 with m:=(s1.m.cut aQ b n).1}:St).live 0 (s1.m.cut aQ b n).2,0)
def St.kv (s:St):St:={s.emit with d:=s.emit.d.flush}
def St.mark (s:St) (aV:Int):St×Int:=
 let e:=s.asks 1 (aV==s.n.aV+1)
 if e≠0 then(s,e) else
 let r:=s.add (3,0,0,aV) none false
 if r.2.2≠0 then(r.1,r.2.2) else
 let s1:=r.1.kv
 let s2:St:={s1 with n:={s1.n with aV:=aV,seq:=s1.n.seq+1,done:=s1.n.seq+1},m:=s1.m.nR.1}
 (s2.live 0 s1.m.nR.2,0)
def St.Pq (s:St) (at_:Int):Bs×Int:=
 if 0<=at_-s.first/\at_-s.first<s.w.blocks.length then(s.w.blocks.getD (at_-s.first).toNat [],0) else s.d.rd at_
def St.bytes (s:St) (at_:Int):Bs×Int:=if at_=0 then(List.replicate 64 0,0) else s.Pq at_
def St.read (s:St) (b:Int):Bs×Int:=
 let e:=s.asks 0 (s.has b 1)
 if e≠0 then([],e) else s.bytes (dz s.m.l0 b)
def C0 (c:bC) (aQ:Bool) (l:List Int) (d:List Bool):List Int->Dk×List Int->Dk×List Int
 |[],r=>r
 |k::a,r=>C0 c aQ l d a (r.1.put (gC c aQ k (1-dU 0 r.2 k)) (xd (cO l 15 d k)),r.2.set k.toNat (1-dU 0 r.2 k))
def St.iI (s:St) (aQ:Bool):Dk×List Int:=C0 s.c aQ (s.m.fq aQ) (s.m.cW aQ) (Sb (s.m.cW aQ)) (s.d,if aQ then s.n.lo else s.n.lb)
def St.tt (s:St) (lb lo:List Int):jZ:=⟨s.n.gen+1,s.n.view,s.n.mode,s.n.aV,s.n.seq,s.n.done,s.w.p,lb,lo,AT s.t.l s.t.v⟩
def St.dc (s:St) (d:Dk):St:={s with d:=d}
def St.check (s:St):St×List Int:=
 let s1:=s.emit
 let a:=s1.iI false
 let s2:=s1.dc a.1
 let b:=s2.iI true
 let s3:=s2.dc b.1.flush
 let s4:=s3.dc (s3.d.kQ (bN s.c (1-s.n.slot)) (chunks (tE s.c (s3.tt a.2 b.2)) (cD s.c).toNat)).flush
 ({s4 with n:={s4.n with gen:=s4.n.gen+1,slot:=1-s4.n.slot,lb:=a.2,lo:=b.2},m:=s4.m.clean,t:={s4.t with l:=AT s4.t.l s4.t.v}},J9 s4.t.l s4.t.v)
def St.raised (s:St) (view mode:Int):St:=({s with m:=s.m.forget.1,n:={s.n with seq:=s.n.done,view:=view,mode:=mode}}:St).live 0 s.m.forget.2
def St.raise (s:St) (view mode:Int):St×Int:=
 if s.n.mode≠1 then(s,7) else if !(bE view 1 2147483647)|| !(mode==1||mode==2) then(s,1) else if view<=s.n.view then(s,8) else if s.d.off then(s,3)
 else((s.raised view mode).check.1,0)
abbrev Stat:=Int×Int×Int×Int×Int×Int×Int×Int×Int×Int
def St.status (s:St):Stat:=(s.n.mode,s.n.view,s.n.aV,s.n.seq,s.n.done,s.n.aO,s.n.gen,dZ s.t.l,s.m.refs.length,tq s.m.l1)
def eH (c:bC) (aO:Int):jZ:=⟨1,1,1,0,0,0,(0,0,1,0,aO),List.replicate (cR c).toNat 0,List.replicate (cR c).toNat 0,(1,0)::List.replicate (c.2.1.toNat- 1) (0,0)⟩
def vL (c:bC) (aQ:Bool) (k:Nat):Bs:=xd (List.replicate (min (c.1-k*15) 15).toNat (if aQ then -1 else 0))
def C1 (c:bC) (aQ:Bool):List (Int×List Bs):=(List.range (cR c).toNat).map λ(k:Nat)=>(gC c aQ k 0,[vL c aQ k])
def KA (c:bC) (id aO:Int):List (Int×List Bs):=
 C1 c false++C1 c true++[(bN c 0,chunks (tE c (eH c aO)) (cD c).toNat),(bN c 1,List.replicate (cD c).toNat (List.replicate 64 0)),(1-aO% 2,[List.replicate 64 0]),(aO% 2,[iS c id aO])]
def Dk.yK (D:Dk) (l:List (Int×List Bs)):Dk:=l.foldl (λD x=>D.kQ x.1 x.2) D
def cj (D:Dk):Int:=match cY (D.sec 0) (D.sec 1) with|some x=>x.1.2.2|none=>0
def wD (c:bC) (id:Int) (D:Dk):Dk:=(D.yK (KA c id (cj D+1))).flush
def jC (c:bC) (D:Dk) (p:Pos):Option (Rec×Pos):=
 if c.2.2<=p.2.1 then none else
 let at_:=bW c p.1+p.2.1
 let n:=ly (D.sec at_)
 if n=0∨c.2.2<p.2.1+n then none else
 match AP (D.gw at_ n.toNat) with
 |none=>none
 |some (r,sum)=>if r.dQ=p.2.2.1/\r.prev=p.2.2.2.1/\p.2.2.2.2<=r.aO then some (r,(p.1,p.2.1+n,r.dQ+1,sum,r.aO)) else none
def pq (c:bC) (D:Dk):Nat->Pos->List (Pos×Rec)×Pos×Option Int
 | 0,p=>([],p,none)
 |n+1,p=>match jC c D p with
  |none=>([],p,none)
  |some (r,q)=>match dJ r.items with
   |some g=>([(p,r)],q,some g)
   |none=>let x:=pq c D n q;((p,r)::x.1,x.2)
def yb (c:bC) (D:Dk) (p:Pos):Option Pos:=
 if 0<p.2.1 then some p else
 match headD (D.sec (bW c p.1)) with
 |none=>none
 |some (a,aO,dQ,prev)=>if a=p.1/\dQ=p.2.2.1/\prev=p.2.2.2.1/\p.2.2.2.2<=aO then some (p.1,1,dQ,prev,aO) else none
def gK (c:bC) (D:Dk) (p:Pos):Option Pos:=if bE p.1 0 (c.2.1- 1)&&bE p.2.1 0 (c.2.2- 1) then yb c D p else none
def rJ (c:bC) (D:Dk):Nat->Pos->Option (List (Pos×Rec)×Pos)
 | 0,_=>none
 |n+1,p=>match gK c D p with
  |none=>some ([],p)
  |some q=>
   let x:=pq c D c.2.2.toNat q
   match x.2.2 with
   |none=>some (x.1,x.2.1)
   |some g=>if bE g 0 (c.2.1- 1) then(rJ c D n (g,0,x.2.1.2.2)).map λy=>(x.1++y.1,y.2) else some (x.1,x.2.1)
structure Fd where
 t:Tb
 m:Im
 aV:Int
 seq:Int
 done:Int
 aO:Int
def Fd.forget (f:Fd):Fd:={f with m:=f.m.forget.1,seq:=f.done}
def Fd.sN (f:Fd) (i:iY) (at_:Int):Fd:=
 if i.1=1 then{f with m:=f.m.lay true i.2.1 at_,seq:=f.seq+1}
 else if i.1=2 then{f with m:=(f.m.cut true i.2.1 i.2.2.1).1,seq:=f.seq+1}
 else if i.1=3 then{f with aV:=i.2.2.2,seq:=f.seq+1,done:=f.seq+1,m:=f.m.nR.1}
 else if i.1=4 then{f with m:=f.m.move i.2.1 i.2.2.2 at_}
 else if i.1=5 then{f with m:=f.m.lay false i.2.1 at_}
 else if i.1=6 then{f with m:=(f.m.cut false i.2.1 i.2.2.1).1}
 else if i.1=7 then{f with t:=f.t.pn i.2.2.2}
 else f
def Fd.items (f:Fd) (at_:Int):List iY->Fd
 |[]=>f
 |i::l=>(f.sN i (if cN i then at_+1 else at_)).items (if cN i then at_+1 else at_) l
def Fd.oP (f:Fd) (aO:Int):Fd:=if f.aO<aO then({f with aO:=aO}:Fd).forget else f
def Fd.tail (f:Fd) (vh dQ:Int) (last:Bool):Fd:={f with t:={f.t with l:=if last then qj (gr f.t.l vh dQ) vh else gr f.t.l vh dQ}}
def Fd.kR (c:bC) (f:Fd) (x:Pos×Rec):Fd:=((f.oP x.2.aO).items (bW c x.1.1+x.1.2.1) x.2.items).tail x.1.1 x.2.dQ (dJ x.2.items).isSome
def ft (c:bC) (D:Dk) (aQ:Bool):Nat->List Int->Im->Option Im
 |_,[],m=>some m
 |k,slot::l,m=>match ru (D.sec (gC c aQ k slot)) with
  |none=>none
  |some refs=>
   let refs:=refs.take (cO (m.fq aQ) 15 (m.cW aQ) k).length
   if refs.all (λx=>CA c x||decide (x< 1))&&(refs.all (λx=>bE x (if aQ then -1 else 0) 4095)) then ft c D aQ (k+1) l (m.load aQ k refs) else none
def Fu (n:Nat) (ul:List cz):List cz:=ul++(List.replicate n (0,0)).drop ul.length
def lg (c:bC) (v:List Int) (l:List (Int×Int)):List Int:=l.foldl (λv x=>lF c v x.2 1) v
def kz (D:Dk):Option St:=
 match cY (D.sec 0) (D.sec 1) with
 |none=>none
 |some ((c,id,aO),_)=>
  if(D.now.length:Int)<all c then none else
  match kh c (D.gw (bN c 0) (cD c).toNat) (D.gw (bN c 1) (cD c).toNat) with
  |none=>none
  |some (r,slot)=>
   match ft c D false 0 r.lb (vj c.1.toNat) with
   |none=>none
   |some a=>match ft c D true 0 r.lo a with
    |none=>none
    |some m1=>match rJ c D (c.2.1.toNat+1) r.pos with
     |none=>none
     |some (l,end_)=>
      let f:=(l.foldl (Fd.kR c) ⟨⟨r.cG,List.replicate c.2.1.toNat 0⟩,m1,r.aV,r.seq,r.done,r.pos.2.2.2.2⟩).forget
      let t:Tb:={f.t with v:=lg c f.t.v f.m.refs}
      let p:Pos:=(end_.1,end_.2.1,end_.2.2.1,end_.2.2.2.1,aO+1)
      if iT c p&&eG c id (aO+1)&&(dU (0,0) t.l p.1).1==1 then
       some ⟨c,((D.put (bW c p.1+p.2.1) (List.replicate 64 0)).put ((aO+1)% 2) (iS c id (aO+1))).flush,t,f.m,⟨p,[],[]⟩,⟨r.mode,r.view,f.aV,f.seq,f.done,aO+1,r.gen,slot,r.lb,r.lo⟩⟩
      else none
def St.jn (s:St):pG:=⟨8,s.n.view,s.n.seq,0,0,s.n.aV,s.n.done,[]⟩
def St.op (s:St) (o:iV):St×Int:=if o.kind=1 then s.lay true o.block o.data else if o.kind=2 then s.cut true o.block o.count else s.mark o.aV
structure Sc where
 view:Int
 size:Int
 aV:Int
 seq:Int
 fA:Int
 done:Int
 l:List iV
def l9 (s:Sc):Int->List iV->List Bs
 |_,[]=>[]
 |n,o::l=>if n<=s.fA∨s.fA+s.size<n then l9 s (n+1) l else cC (dY s.view n o)::l9 s (n+1) l
def Sc.out (s:Sc):List Bs:=l9 s (s.done+1) s.l
end KM
end
namespace Go.Proofs.YtbijlklgbfminaaGreat
section
namespace Ds
open Go Go.Kx KM
abbrev gN (b:gq):List Value:=b.1.map (Value.int .u8)
abbrev Dv (w:Int×gq):List Value:=Value.int .i64 w.1::gN w.2
theorem qW (b:gq):(gN b).length=64:=by simp[b.2]
theorem w5 (w:Int×gq):(Dv w).length=65:=by simp[w.2.2]
theorem Fj (b:gq):(gN b).all cI=true:=by simp[gN,cI]
theorem Sd (w:Int×gq):(Dv w).all cI=true:=by simp[Dv,gN,cI]
structure DA where
 a:Addr
 s:Sl
 n:Sl
 h:Sl
 f:Sl
def sW (A:DA) (D:Dk):List Value:=[Sl.v A.s,Sl.v A.n,Sl.v A.h,Sl.v A.f,.int .i64 D.lf,.int .i64 D.iB,.bool D.off]
def DA.gW (A:DA) (c:Nat):Prop:=c=A.a.block∨A.s.has c∨A.n.has c∨A.h.has c∨A.f.has c
structure T5 (A:DA):Prop where
 Iy:¬A.s.has A.a.block
 an:¬A.n.has A.a.block
 ah:¬A.h.has A.a.block
 af:¬A.f.has A.a.block
 sn:∀c,A.s.has c->¬A.n.has c
 sh:∀c,A.s.has c->¬A.h.has c
 sf:∀c,A.s.has c->¬A.f.has c
 nh:∀c,A.n.has c->¬A.h.has c
 nf:∀c,A.n.has c->¬A.f.has c
 hf:∀c,A.h.has c->¬A.f.has c
structure dG (H:PH) (A:DA) (D:Dk):Prop where
 row:aZ H A.a (sW A D)
 safe:bT gN 64 H A.s D.safe
 now:bT gN 64 H A.n D.now
 held:bT Dv 65 H A.h D.held
 dL:dE Value.bool H A.f D.dL
 ap:T5 A
def Fv (A:DA) (H H':PH):Prop:=∀c o,H c=some o->¬A.gW c->H' c=some o
theorem dG.cQ {H H':PH} {A:DA} {D:Dk} (h:dG H A D) (x:∀c o,A.gW c->H c=some o->H' c=some o):dG H' A D:=
 ⟨⟨h.row.1,h.row.2.1,let⟨e,he⟩:=h.row.2.2;⟨e,x _ _ (.inl rfl) he⟩⟩,h.safe.cQ λc o a=>x c o (.inr (.inl a)),h.now.cQ λc o a=>x c o (.inr (.inr (.inl a))),
   h.held.cQ λc o a=>x c o (.inr (.inr (.inr (.inl a)))),dE.cQ h.dL λc o a=>x c o (.inr (.inr (.inr (.inr a)))),h.ap⟩
theorem dG.ext {H H':PH} {A:DA} {D:Dk} (h:dG H A D) (x:Ext H H'):dG H' A D:=h.cQ λc o _ a=>x c o a
theorem dG.dX {H H':PH} {A:DA} {D f:Dk} (h:dG H A D) (m:aZ H' A.a (sW A f)) (k:rZ A.a.block H H') (g:f.safe=D.safe) (i:f.now=D.now) (j:f.held=D.held) (l:f.dL=D.dL):dG H' A f:=
 ⟨m,by rw[g];exact h.safe.cQ λc o b d=>k c o d λe=>h.ap.Iy (e▸b),by rw[i];exact h.now.cQ λc o b d=>k c o d λe=>h.ap.an (e▸b),
  by rw[j];exact h.held.cQ λc o b d=>k c o d λe=>h.ap.ah (e▸b),by rw[l];exact dE.cQ h.dL λc o b d=>k c o d λe=>h.ap.af (e▸b),h.ap⟩
theorem Fv.BC {H H':PH} {A:DA} (k:rZ A.a.block H H'):Fv A H H':=λc o b d=>k c o b λe=>d (.inl e)
structure Small (D:Dk):Prop where
 T6: -1<=D.lf
 T7:D.lf< 2 ^ 63
 T8:0<=D.iB
 T9:D.iB< 2 ^ 40
 held:D.held.length< 2 ^ 30
 now:D.now.length<=4096
 safe:D.safe.length=D.now.length
 dL:D.dL.length=D.now.length
 at_:∀w,w∈D.held->0<=w.1/\w.1<D.now.length
theorem Fw {H:PH} {A:DA} {D:Dk} {Q:Int->PH->Prop} (h:dG H A D) (sm:Small D) (z:∀H',dG H' A D.act.1->rZ A.a.block H H'->Q (if D.act.2 then 0 else 3) H'):oh (some A.a) H Q:=by
 refine aD (aa (x:=D.iB) h.row rfl (aD ?_))
 have:=sm.T8;have:=sm.T9;have:=sm.T6;have:=sm.T7
 rw[bA (by omega) (by omega)]
 refine tI h.row (by simp[sW]) rfl λH1 q k1=>aD (aa (x:=D.off) q rfl ?_)
 have fin:∀b:Bool,b=(D.off||D.lf==0)->aN (some A.a) λu=>aX H1 (u.add 6) [.bool b] λd=>aN (some A.a) λv=>aH .bool d (v.add 6) λC=>aJ C (Q 3 d)
  (aN (some A.a) λw=>aH (.int .i64) d (w.add 4) λm=>aN (some A.a) λy=>aX d (y.add 4) ([.int .i64 (if(IntKind.wrap .i64 (m- 1))<(-1) then(-1) else(IntKind.wrap .i64 (m- 1)))]) λt=>Q 0 t):=by
  intro b B
  refine aD (tI q (by simp[sW]) rfl λr i k2=>aD (aa (x:=b) i rfl ?_))
  have g:rZ A.a.block H r:=λc o n f=>k2 c o (k1 c o n f) f
  refine aL (λk=>?_) (λj=>?_)
  ·have e:D.act=({D with iB:=D.iB+1,off:=true},false):=by rw[Dk.act,←B,k];rfl
   have:=z r (h.dX (by rw[e];subst k;exact i) g (by rw[e]) (by rw[e]) (by rw[e]) (by rw[e])) g
   rw[e] at this;exact this
  ·have e:D.act=({D with iB:=D.iB+1,off:=false,lf:=max (D.lf- 1) (-1)},true):=by rw[Dk.act,←B,j];rfl
   refine aD (aa (x:=D.lf) i rfl (aD ?_))
   rw[bA (x:=D.lf- 1) (by omega) (by omega)]
   have em:(if D.lf- 1< -1 then -1 else D.lf- 1)=max (D.lf- 1) (-1):=by omega
   rw[em]
   refine tI i (by simp[sW]) rfl λs E k3=>?_
   have l:rZ A.a.block H s:=λc o n f=>k3 c o (g c o n f) f
   have:=z s (h.dX (by rw[e];subst j;exact E) l (by rw[e]) (by rw[e]) (by rw[e]) (by rw[e])) l
   rw[e] at this;exact this
 refine aF (aL (λp=>fin true (by rw[p];rfl)) (λp=>aD (aa (x:=D.lf) q rfl (fin _ (by rw[p];simp)))))
theorem ny {H:PH} {A:DA} {D:Dk} {at':Int} {Q:Bool->PH->Prop} (h:dG H A D) (b:Q (decide (0<=at')&&decide (at'<D.now.length)) H):og (some A.a) at' H Q:=by
 refine aF (ae rfl (aF (aL (λe=>aD (aa (x:=A.n) h.row rfl ?_)) (λe=>?_))))
 ·rw[h.now.bF];rw[e,Bool.true_and] at b;exact b
 ·rw[e,Bool.false_and] at b;exact b
theorem dG.dA {H:PH} {A:DA} {D:Dk} (h:dG H A D) {c:Nat} (a:A.gW c):∃o,H c=some o:=by
 rcases a with rfl|a|a|a|a
 ·obtain⟨e,he⟩:=h.row.2.2;exact⟨_,he⟩
 ·exact bT.dA h.safe a
 ·exact bT.dA h.now a
 ·exact bT.dA h.held a
 ·exact dE.dA h.dL a
theorem jD {H:PH} {c:Nat} (h:∃o,H c=some o) (a:H c=none):False:=by obtain⟨o,b⟩:=h;rw[b] at a;cases a
theorem kS {c:Nat}:¬Sl.nil.has c:=λ⟨a,b,_⟩=>by cases b
theorem Pr {α:Type} {enc:α->List Value} {sz:Nat} {H:PH} {e:TypeId} {x:α} {n:Int} {cs:List Value} {K:Sl->PH->Prop} (c:cs=bz n.toNat (enc x)) (b:∀r H',Ext H H'->jr H r->bT enc sz H' r (List.replicate n.toNat x)->K r H'):mC H (row cs e) n n K:=by
 subst c
 exactλr H' a=>b r H' (.lX a) (.gI a) (bT.vE a Bw (by simp))
theorem Se {α:Type} {enc:α->Value} {H:PH} {e:TypeId} {x:α} {n:Int} {K:Sl->PH->Prop} (b:∀r H',Ext H H'->jr H r->dE enc H' r (List.replicate n.toNat x)->K r H'):mC H (row (bz n.toNat [enc x]) e) n n K:=by
 intro r H' a
 have e1:bz n.toNat [enc x]=(List.replicate n.toNat x).map enc:=by rw[uz,List.map_replicate]
 rw[e1] at a
 exact b r H' (.lX a) (.gI a) (dE.gI (l:=List.replicate n.toNat x) (e:=e) (by simpa using a))
theorem eI {H:PH} {n:Nat} {Q:Option Addr->Int->PH->Prop} (d:1<=n) (e:n<=4096) (p:∀A H',Ext H H'->dG H' A (fresh n)->(∀c,A.gW c->H c=none)->Q (some A.a) 0 H'):tL n H Q:=by
 have e1:decide ((n:Int)< 1)=false:=by simp;omega
 have e2:decide ((4096:Int)<n)=false:=by simp;omega
 refine aF (aE e1 ?_)
 rw[e2]
 refine aE rfl ⟨⟨by omega,by omega,by omega⟩,⟨by omega,by omega,by omega⟩,⟨by omega,by omega,by omega⟩,?_⟩
 refine Pr (enc:=gN) (sz:=64) (x:=pj) rfl λq H1 g o1 v1=>Pr (enc:=gN) (sz:=64) (x:=pj) rfl λr t f o2 v2=>Se (x:=false) λs u h o3 l=>?_
 refine jf λa o i m f4=>?_
 rw[Int.toNat_natCast] at v1 v2 l
 have j:=v1.ext (f.trans h)
 have k:=v2.ext h
 refine p ⟨a,q,r,Sl.nil,s⟩ o (((g.trans f).trans h).trans i) ⟨m,j.ext i,k.ext i,.inl ⟨rfl,rfl⟩,l.ext i,⟨?_,?_,kS,?_,?_,λ_ _=>kS,?_,λ_ _=>kS,?_,λc b=>absurd b kS⟩⟩ ?_
 ·exactλb=>jD (bT.dA j b) f4
 ·exactλb=>jD (bT.dA k b) f4
 ·exactλb=>jD (dE.dA l b) f4
 ·exactλc d e=>jD (bT.dA v1 d) (o2 c e)
 ·exactλc d e=>jD (bT.dA (v1.ext f) d) (o3 c e)
 ·exactλc d e=>jD (bT.dA v2 d) (o3 c e)
 ·rintro c (rfl|b|b|b|b)
  ·exact((g.trans f).trans h).none f4
  ·exact o1 c b
  ·exact g.none (o2 c b)
  ·exact absurd b kS
  ·exact(g.trans f).none (o3 c b)
structure BH (A:DA) (H:PH) (A':DA) (H':PH):Prop where
 same:A'.a=A.a
 gW:∀c,A'.gW c->A.gW c∨H c=none
 beside:Fv A H H'
theorem BH.CC {A:DA} {H H':PH} (k:rZ A.a.block H H'):BH A H A H':=⟨rfl,λc h=>.inl h,.BC k⟩
theorem Fx {α:Type} {enc:α->Value} {H:PH} {s:Sl} {l:List α} {n:Nat} {K:Addr->Prop} (h:b9 enc H s l) (e:n=l.length) (c:0<n) (d:∀a,s.a=some a->K a):Nq s n K:=by
 subst e
 obtain⟨a,b,_,_⟩:=h.2.2 0 l[0] (by simp[c])
 exact⟨by rw[h.1];omega,a,b,d a b⟩
theorem EW {α:Type} {enc:α->Value} {H:PH} {s:Sl} {l:List α} {a:Addr} (h:b9 enc H s l) (b:s.a=some a):bw H a l.length=some (l.map enc):=by
 have:=h.cells
 unfold df at this
 rw[b] at this
 simpa[h.1] using this
theorem C2 {α:Type} {enc:α->Value} {A B:PH} {s:Sl} {l:List α} (h:b9 enc A s l) (x:∀c o,s.has c->A c=some o->B c=some o):b9 enc B s l:=
 ⟨h.1,h.2.1,λi y hi=>let⟨a,d,j,b⟩:=h.2.2 i y hi;⟨a,d,j,by
  unfold cellAt at b ⊢
  rw[qm] at b ⊢
  split at b
  ·rename_i c e f g;rw[x _ _ ⟨a,d,rfl⟩ g];exact b
  ·cases b⟩⟩
theorem Fy (D:Dk):D.act.1.safe=D.safe/\D.act.1.now=D.now/\D.act.1.held=D.held/\D.act.1.dL=D.dL:=by
 unfold Dk.act;split<;>exact⟨rfl,rfl,rfl,rfl⟩
theorem r9 {H:PH} {A:DA} {D:Dk} {i:Nat} {p:Sl} {b:gq} {Q:Int->PH->Prop} (h:dG H A D) (sm:Small D) (hi:i<D.now.length) (W:Bytes H p b.1) (R:∀c,p.has c->¬A.gW c)
 (E:∀S H',dG H' S (D.write i b)->BH A H S H'->Q (if D.act.2 then 0 else 3) H'):fQ (some A.a) i p H Q:=by
 have hlen:=W.bF
 rw[b.2] at hlen
 have e1:(decide (0<=(i:Int))&&decide ((i:Int)<D.now.length))=true:=by simp;omega
 have e2:((p.len:Int) != 64)=false:=by rw[hlen];rfl
 refine ny h ?_
 rw[e1]
 refine aF (aE rfl ?_)
 rw[e2]
 refine aE rfl (Fw h sm λH1 P k1=>?_)
 obtain⟨s1,s2,s3,s4⟩:=Fy D
 by_cases k:D.act.2=true
 ·have hw:D.write i b={D.act.1 with held:=D.held++[((i:Int),b)],now:=D.now.set i b}:=by rw[Dk.write,if_pos k]
  rw[if_pos k] at E ⊢
  have z:Bytes H1 p b.1:=C2 W λc o d l=>k1 c o l λe=>R c d (.inl e)
  refine aE rfl (aD (aa (x:=A.h) P.row rfl (Fx z b.2.symm (by decide) λa F=>?_)))
  have L:=EW z F
  rw[b.2] at L
  refine⟨_,L,⟨by simp[b.2],⟨by simp[pR,b.2],λr N t=>?_⟩⟩⟩
  have J:=Ext.lX t
  have j:=P.ext J
  have v2:bT Dv 65 N r [((i:Int),b)]:=bT.vE t (by simp[pR,Dv,gN]) rfl
  have X:=sm.held
  refine⟨j.row.cell rfl,Nt w5 (by decide) (s3▸j.held) (v2.cells w5 (by decide)) v2.len Sd rfl (by rw[List.length_singleton];omega) λm T v3 k3 n3=>?_⟩
  have G:aZ T A.a (sW A D.act.1):=⟨j.row.1,j.row.2.1,let⟨e,he⟩:=j.row.2.2;⟨e,k3 _ _ he j.ap.ah⟩⟩
  refine aD (tI G (by simp[sW]) rfl λU I u=>aD (aa (x:=A.n) I rfl ?_))
  have Z:∀c,m.has c->∃o,T c=some o:=λc d=>bT.dA v3 d
  have w:∀c,N c=none->H c=none:=λc d=>by
   cases g:H c with
   |none=>rfl
   |some o=>
    by_cases he:c=A.a.block
    ·subst he;exact absurd d (λd=>jD (j.dA (.inl rfl)) d)
    ·rw[J c o (k1 c o g he)] at d;cases d
  have q:∀c,m.has c->A.h.has c∨N c=none:=n3
  have K:∀c,m.has c->c≠A.a.block:=λc d e=>by
   subst e
   rcases q _ d with g|g
   ·exact j.ap.ah g
   ·exact jD (j.dA (.inl rfl)) g
  have n4:bT gN 64 U A.n D.now:=(s2▸j.now).cQ λc o d l=>u c o (k3 c o l (j.ap.nh c d)) λe=>j.ap.an (e▸d)
  have p4:Bytes U p b.1:=C2 z λc o d l=>u c o (k3 c o (J c o l) λg=>R c d (.inr (.inr (.inr (.inl g))))) λe=>R c d (.inl e)
  refine Fx p4 b.2.symm (by decide) λa4 V=>?_
  have M:=EW p4 V
  rw[b.2] at M
  refine⟨_,M,qv n4 (by omega) (by omega) λa5 y el=>⟨by simp[b.2],IJ (y:=b) qW el (Fj b) λO v5 C=>?_⟩⟩
  rw[Int.toNat_natCast] at v5
  have Y:∀c,A.n.has c->¬m.has c:=λc d B=>by
   rcases q c B with g|g
   ·exact j.ap.nh c d g
   ·exact jD (j.dA (.inr (.inr (.inl d)))) g
  have sr:∀c,A.s.has c->¬m.has c:=λc d B=>by
   rcases q c B with g|g
   ·exact j.ap.sh c d g
   ·exact jD (j.dA (.inr (.inl d))) g
  have fr:∀c,A.f.has c->¬m.has c:=λc d B=>by
   rcases q c B with g|g
   ·exact j.ap.hf c g d
   ·exact jD (j.dA (.inr (.inr (.inr (.inr d))))) g
  refine E ⟨A.a,A.s,A.n,m,A.f⟩ O ?_ ⟨rfl,?_,λc o d t=>?_⟩
  ·rw[hw]
   refine⟨?_,?_,v5,?_,?_,⟨j.ap.Iy,j.ap.an,λd=>K _ d rfl,j.ap.af,j.ap.sn,sr,j.ap.sf,Y,j.ap.nf,λc d hf=>fr c hf d⟩⟩
   ·have:sW ⟨A.a,A.s,A.n,m,A.f⟩ {D.act.1 with held:=D.held++[((i:Int),b)],now:=D.now.set i b}=(sW A D.act.1).set 2 (Sl.v m):=rfl
    rw[this]
    exact⟨I.1,I.2.1,let⟨e,he⟩:=I.2.2;⟨e,C _ _ he j.ap.an⟩⟩
   ·show bT gN 64 O A.s D.act.1.safe
    exact j.safe.cQ λc o d l=>C c o (u c o (k3 c o l (j.ap.sh c d)) λe=>j.ap.Iy (e▸d)) λg=>j.ap.sn c d g
   ·exact v3.cQ λc o d l=>C c o (u c o l (K c d)) λg=>Y c g d
   ·show dE Value.bool O A.f D.act.1.dL
    exact dE.cQ j.dL λc o d l=>C c o (u c o (k3 c o l λg=>j.ap.hf c g d) λe=>j.ap.af (e▸d)) λg=>j.ap.nf c g d
  ·rintro c (rfl|d|d|d|d)
   ·exact .inl (.inl rfl)
   ·exact .inl (.inr (.inl d))
   ·exact .inl (.inr (.inr (.inl d)))
   ·rcases q c d with g|g
    ·exact .inl (.inr (.inr (.inr (.inl g))))
    ·exact .inr (w c g)
   ·exact .inl (.inr (.inr (.inr (.inr d))))
  ·have F:c≠A.a.block:=λe=>t (.inl e)
   exact C c o (u c o (k3 c o (J c o (k1 c o d F)) λg=>t (.inr (.inr (.inr (.inl g))))) F) λg=>t (.inr (.inr (.inl g)))
 ·have hf:D.act.2=false:=by simpa using k
  have hw:D.write i b=D.act.1:=by rw[Dk.write,if_neg k]
  rw[if_neg k] at E ⊢
  exact ae rfl (E A H1 (hw▸P) (.CC k1))
theorem Fz {α:Type} {enc:α->Value} {H H':PH} {s:Sl} {e:TypeId} (h:uP H (row [] e) 0 0 s H'):dE enc H' s []:=by
 obtain⟨b,a,rfl,rfl⟩:=h
 exact .inr ⟨b,[],e,by simp,by simp⟩
theorem ME {α:Type} {enc:α->List Value} {sz:Nat} {H H':PH} {s:Sl} {e:TypeId} (h:uP H (row [] e) 0 0 s H'):bT enc sz H' s []:=by
 obtain⟨b,a,rfl,rfl⟩:=h
 exact .inr ⟨b,0,e,[],by simp,by simp,by simp⟩
theorem Hc {H:PH} {s:Sl} {l:List Int} {a:Addr} {Q:Sl->PH->Prop} (h:Bytes H s l) (i:s.a=some a) (n:l.length<=2 ^ 40) (g:∀r H',Ext H H'->jr H r->dE (Value.int .u8) H' r l->Q r H'):bc s H Q:=by
 refine aE (by rw[i];rfl) λk H1 d=>?_
 have e:=Ext.lX d
 have o1:jr H k:=.gI d
 refine Dn (l:=[]) (Fz d) (h.ext e) (λ_=>rfl) rfl (by simp;omega) λm f v2 k2 n2=>g m f (e.oT k2 o1) (λc j=>?_) (by simpa using v2)
 rcases n2 c j with b|b
 ·exact o1 c b
 ·exact e.none b
theorem KB {H:PH} {s:Sl} {l:List gq} {i n c:Nat} {x:gq} {a:Addr} (h:pT gN 64 H s l i x a) (m:n<=64) (f:n<=c):Bytes H ⟨some a,n,c⟩ (x.1.take n):=by
 refine⟨by simp[x.2];omega,f,λj y d=>⟨a,rfl,?_,?_⟩⟩
 ·obtain⟨⟨b,sp,e,spare,rfl,g,k,rfl⟩,_⟩:=h;rfl
 ·rw[List.getElem?_take] at d
  split at d
  ·exact h.cell qW (by simp[gN,d])
  ·cases d
theorem tR {H:PH} {A:DA} {D:Dk} {i:Nat} {Q:Sl->Int->PH->Prop} (h:dG H A D) (sm:Small D) (hi:i<D.now.length)
 (o:D.read i=3->Q Sl.nil 3 H) (p:D.read i=4->Q Sl.nil 4 H) (m:D.read i=0->∀r H' b,D.now[i]?=some b->Ext H H'->jr H r->dE (Value.int .u8) H' r b.1->Q r 0 H'):eQ (some A.a) i H Q:=by
 have e1:(decide (0<=(i:Int))&&decide ((i:Int)<D.now.length))=true:=by simp;omega
 refine ny h ?_
 rw[e1]
 refine aE rfl (aD (aa (x:=D.off) h.row rfl (aL (λe=>o (by rw[Dk.read,e];rfl)) (λe=>aD (aa (x:=A.f) h.row rfl ?_)))))
 have u:=sm.dL
 refine eJ h.dL.list (by omega) (by omega) λx j=>?_
 rw[Int.toNat_natCast] at j
 have g:D.dL.getD i false=x:=by simp[List.getD,j]
 refine aL (λl=>p (by rw[Dk.read,e,g,l];rfl)) (λk=>aD (aa (x:=A.n) h.row rfl ?_))
 refine qv h.now (by omega) (by omega) λa b el=>⟨_,⟨by omega,by omega,by omega,rfl⟩,?_⟩
 have q:Bytes H ⟨some a,64,64⟩ b.1:=by
  have:=KB el (n:=64) (c:=64) (by omega) (by omega)
  rwa[List.take_of_length_le (by rw[b.2];omega)] at this
 have es:(⟨some (if 64=(0:Int).toNat then a else a.add ((0:Int).toNat*1)),(64:Int).toNat-(0:Int).toNat,64-(0:Int).toNat⟩:Sl)=⟨some a,64,64⟩:=by
  simp[add_zero']
 rw[es]
 have d:=el.get
 rw[Int.toNat_natCast] at d
 exact Hc q rfl (by rw[b.2];omega) λr H' t o' s=>m (by rw[Dk.read,e,g,k];rfl) r H' b d t o' s
theorem OL {H:PH} {A:DA} {D:Dk} {Q:Bool->PH->Prop} (h:dG H A D) (b:Q D.off H):gJ (some A.a) H Q:=aF (aE rfl (aD (aa (x:=D.off) h.row rfl b)))
theorem tu {H:PH} {A:DA} {D:Dk} {Q:Int->PH->Prop} (h:dG H A D) (b:Q D.now.length H):iw (some A.a) H Q:=by
 refine aE rfl (aD (aa (x:=A.n) h.row rfl ?_))
 rw[h.now.bF];exact b
theorem aZ.part {H:PH} {a:Addr} {cs:List Value} {i n:Nat} (h:aZ H a cs) (b:i+n<=cs.length):bw H (a.add i) n=some ((cs.drop i).take n):=by
 obtain⟨e,he⟩:=h.2.2
 rw[h.addr,eW,oZ he (by omega),Nat.zero_add]
theorem FC (l:List (Int×gq)):∀s,(lN s l).length=s.length:=by
 induction l with
 |nil=>intro s;rfl
 |cons w l a=>intro s;show(lN (s.set w.1.toNat w.2) l).length=_;rw[a];simp
theorem He (s:List gq) (l:List (Int×gq)) (w:Int×gq):lN s (l++[w])=(lN s l).set w.1.toNat w.2:=by simp[lN]
theorem KC {H:PH} {A:DA} {D:Dk} {Q:Int->PH->Prop} (h:dG H A D) (sm:Small D) (t:∀z H',dG H' z D.flush->BH A H z H'->Q (if D.act.2 then 0 else 3) H'):fR (some A.a) H Q:=by
 refine aE rfl (Fw h sm λH1 u k1=>?_)
 obtain⟨s1,s2,s3,s4⟩:=Fy D
 by_cases j:D.act.2=true
 ·have hw:D.flush={D.act.1 with safe:=lN D.safe D.held,held:=[]}:=by rw[Dk.flush,if_pos j]
  rw[if_pos j] at t ⊢
  refine aE rfl (aD (aa (x:=A.h) u.row rfl ?_))
  have U:=sm.held
  refine ax D.held.length (λk s C=>s=(k:Int)/\dG C A {D.act.1 with safe:=lN D.safe (D.held.take k)}/\BH A H A C) ⟨rfl,by rw[List.take_zero];show dG H1 A {D.act.1 with safe:=D.safe};rw[←s1];exact u,.CC k1⟩ ?_
  rintro k s W again hk ⟨rfl,d,AV⟩ F
  have v2:=d.held
  simp only[s3] at v2
  rw[v2.bF]
  refine aL (λJ=>?_) (λG=>?_)
  ·have I:k<D.held.length:=by simpa using J
   refine qv v2 (by omega) (by omega) λa w el=>UP w5 el ?_
   have l:=el.get
   rw[Int.toNat_natCast] at l
   obtain⟨S,Y⟩:=sm.at_ w (List.mem_of_getElem? l)
   refine jf λP B M v f3=>⟨w5 w,sO v (by rw[w5];rfl) (Sd w) λN L K=>?_⟩
   have i:dG N A {D.act.1 with safe:=lN D.safe (D.held.take k)}:=d.cQ λc o b g=>K c o (M c o g) λe=>by subst e;rw[f3] at g;cases g
   have T:¬A.gW P.block:=λb=>jD (d.dA b) f3
   refine aD (aa (x:=A.s) i.row rfl (aa (x:=w.1) L rfl ⟨gN w.2,?_,?_⟩))
   ·rw[aZ.part L (by rw[w5];omega)]
    show some ((gN w.2).take 64)=_
    rw[List.take_of_length_le (by rw[qW];omega)]
   ·have V:=sm.safe
    refine qv i.safe S (by rw[FC];omega) λX y E=>⟨qW w.2,IJ (y:=w.2) qW E (Fj _) λO R r=>?_⟩
    refine F I _ _ ⟨?_,⟨?_,?_,?_,?_,?_,i.ap⟩,⟨rfl,λc b=>.inl b,λc o b q=>?_⟩⟩
    ·rw[bA (by omega) (by omega)];push_cast;rfl
    ·exact⟨i.row.1,i.row.2.1,let⟨e,he⟩:=i.row.2.2;⟨e,r _ _ he i.ap.Iy⟩⟩
    ·rw[List.take_add_one,l];show bT gN 64 O A.s (lN D.safe (D.held.take k++[w]));rw[He];exact R
    ·exact i.now.cQ λc o b g=>r c o g λm=>i.ap.sn c m b
    ·exact i.held.cQ λc o b g=>r c o g λm=>i.ap.sh c m b
    ·exact dE.cQ i.dL λc o b g=>r c o g λm=>i.ap.sf c m b
    ·have p:=AV.beside c o b q
     exact r c o (K c o (M c o p) λe=>by subst e;rw[f3] at p;cases p) λm=>q (.inr (.inl m))
  ·have:k=D.held.length:=by simp at G;omega
   subst this
   rw[List.take_length] at d
   refine aD (tI d.row (by simp[sW]) rfl λB v k3=>t ⟨A.a,A.s,A.n,Sl.nil,A.f⟩ B ?_ ⟨rfl,?_,?_⟩)
   ·rw[hw]
    refine⟨v,?_,?_,.inl ⟨rfl,rfl⟩,?_,⟨d.ap.Iy,d.ap.an,kS,d.ap.af,d.ap.sn,λ_ _=>kS,d.ap.sf,λ_ _=>kS,d.ap.nf,λc b=>absurd b kS⟩⟩
    ·exact d.safe.cQ λc o b g=>k3 c o g λe=>d.ap.Iy (e▸b)
    ·exact d.now.cQ λc o b g=>k3 c o g λe=>d.ap.an (e▸b)
    ·exact dE.cQ d.dL λc o b g=>k3 c o g λe=>d.ap.af (e▸b)
   ·rintro c (rfl|b|b|b|b)
    ·exact .inl (.inl rfl)
    ·exact .inl (.inr (.inl b))
    ·exact .inl (.inr (.inr (.inl b)))
    ·exact absurd b kS
    ·exact .inl (.inr (.inr (.inr (.inr b))))
   ·exactλc o b q=>k3 c o (AV.beside c o b q) λe=>q (.inl e)
 ·have hw:D.flush=D.act.1:=by rw[Dk.flush,if_neg j]
  rw[if_neg j] at t ⊢
  exact ae rfl (t A H1 (hw▸u) (.CC k1))
end Ds
end
section
namespace Ds
open Go Go.Kx KM
theorem bT.F0 {α:Type} {enc:α->List Value} {sz:Nat} {H:PH} {s:Sl} {l:List α} (h:bT enc sz H s l) (c:0<l.length):s.a.isNone=false:=by
 rcases h with⟨rfl,rfl⟩|⟨b,sp,e,spare,rfl,_⟩
 ·simp at c
 ·rfl
theorem dE.F0 {α:Type} {enc:α->Value} {H:PH} {s:Sl} {l:List α} (h:dE enc H s l) (c:0<l.length):s.a.isNone=false:=by
 rcases h with⟨rfl,rfl⟩|⟨b,sp,e,rfl,_⟩
 ·simp at c
 ·rfl
theorem AW {H:PH} {s:Sl} {l:List gq} {Q:Sl->PH->Prop} (h:bT gN 64 H s l) (f:0<l.length) (n:l.length<=4096) (g:∀r H',Ext H H'->jr H r->bT gN 64 H' r l->Q r H'):dI s H Q:=by
 refine aE (bT.F0 h f) λk H1 b=>?_
 have d:=Ext.lX b
 have o1:jr H k:=.gI b
 refine Nt (l:=[]) qW (by decide) (ME b) ((h.ext d).cells qW (by decide)) h.len Fj (by simp) (by simp;omega) λm e v2 k2 n2=>g m e (d.oT k2 o1) (λc j=>?_) (by simpa using v2)
 rcases n2 c j with a|a
 ·exact o1 c a
 ·exact d.none a
theorem Hf {H:PH} {s:Sl} {l:List Bool} {Q:Sl->PH->Prop} (h:dE Value.bool H s l) (f:0<l.length) (n:l.length<=4096) (g:∀r H',Ext H H'->jr H r->dE Value.bool H' r l->Q r H'):jW s H Q:=by
 refine aE (dE.F0 h f) λk H1 b=>?_
 have d:=Ext.lX b
 have o1:jr H k:=.gI b
 refine Dn (l:=[]) (Fz b) (h.ext d).list (λ_=>rfl) rfl (by simp;omega) λm e v2 k2 n2=>g m e (d.oT k2 o1) (λc j=>?_) (by simpa using v2)
 rcases n2 c j with a|a
 ·exact o1 c a
 ·exact d.none a
theorem MF {H:PH} {s src:Sl} {l:List gq} {i n t:Nat} {x y:gq} {a sa:Addr} {K:Int->PH->Prop} (el:pT gN 64 H s l i x a) (I:n<=64) (j:src.a=some sa) (E:n<=src.len) (C:bw H sa n=some ((y.1.take n).map (Value.int .u8)))
 (w:∀r H',bT gN 64 H' s (l.set i (CB x y n))->vV s H H'->K r H'):mZ H 1 ⟨some a,n,t⟩ src K:=by
 obtain⟨b,off,cs,e,B,f,hle,J,hk⟩:=IJ (y:=CB x y n) (K:=λH'=>∀r,K r H') qW el (Fj _) λH' v k r=>w r H' v k
 obtain⟨⟨F,sp,m,spare,rfl,G,o,rfl⟩,q⟩:=el
 have hi:=(List.getElem?_eq_some_iff.1 q).1
 cases B
 rw[o] at f
 have p:cs=l.flatMap gN++spare:=by
  have:(l.flatMap gN++spare).toArray=cs.toArray:=by cases f;rfl
  simpa using(congrArg Array.toList this).symm
 have he:m=e:=by cases f;rfl
 subst p;subst he
 have c:((y.1.take n).map (Value.int .u8)).length=n:=by simp[y.2];omega
 have h:=pS (enc:=gN) q
 have g:=qB qW (l:=l) (i:=i) (by omega)
 refine⟨(y.1.take n).map (Value.int .u8),?_,by rw[List.all_map];exact List.all_eq_true.2 λz _=>rfl,_,i*64,_,m,rfl,o,?_,?_⟩
 ·have em:min src.len n=n:=by omega
  simp only[df,j,em,Nat.mul_one];exact C
 ·rw[c];rw[qW] at hle;omega
 ·have d:putAt (l.flatMap gN++spare) (i*64) ((y.1.take n).map (Value.int .u8))=putAt (l.flatMap gN++spare) (i*64) (gN (CB x y n)):=by
   rw[kF _ _ _ (by rw[c];rw[qW] at hle;omega),kF _ _ _ hle,c,qW]
   have u:gN (CB x y n)=(y.1.take n).map (Value.int .u8)++(gN x).drop n:=by simp[gN,CB]
   rw[u,List.append_assoc,List.append_assoc,List.append_assoc]
   congr 2
   generalize(l.drop (i+1)).flatMap gN=rest at h
   generalize(l.take i).flatMap gN=pre at h g
   rw[h]
   simp only[List.append_assoc]
   rw[List.drop_append,List.drop_of_length_le (by omega),List.nil_append,g,Nat.add_sub_cancel_left,List.drop_append_of_le_length (by rw[qW];omega)]
   congr 1
   rw[List.drop_append,List.drop_of_length_le (by omega),List.nil_append,g,Nat.add_sub_cancel_left,List.drop_append_of_le_length (by rw[qW];omega),List.drop_of_length_le (by rw[qW];omega),List.nil_append]
  rw[d];exact hk _
theorem Qr (m:List Int) (k:Nat):0<=fj m k/\fj m k< 192:=by
 unfold fj
 split
 ·exact⟨Int.emod_nonneg _ (by decide),Int.emod_lt_of_pos _ (by decide)⟩
 ·exact⟨by decide,by decide⟩
theorem C3 (m:List Int) (st:List gq×Bool) (k:Nat) (w:Int×gq):(mX m st k w).1.length=st.1.length:=by
 unfold mX;split
 ·simp
 ·split<;>simp
theorem sA (m:List Int) (safe:List gq) (held:List (Int×gq)):∀k,(dV m safe held k).1.length=safe.length
 | 0=>rfl
 |k+1=>by
  unfold dV
  split
  ·rw[C3,sA m safe held k]
  ·exact sA m safe held k
theorem OM (x:Int):(IntKind.wrap .i64 (x.tmod 192+192)).tmod 192=x% 192:=by
 have d:=Int.lt_tmod_of_pos x (show(0:Int)< 192 by decide)
 have e:=Int.tmod_lt_of_pos x (show(0:Int)< 192 by decide)
 rw[bA (by omega) (by omega),Int.tmod_eq_emod_of_nonneg (by omega)]
 have c:=Int.tmod_eq_emod (a:=x) (b:=192)
 split at c<;>omega
theorem KD {H:PH} {A:DA} {D:Dk} {p:Sl} {m:List Int} {Q:Option Addr->PH->Prop} (h:dG H A D) (sm:Small D) (h0:0<D.now.length) (hp:fv H p m)
 (hQ:∀A' H',Ext H H'->dG H' A' (D.ku m)->(∀c,A'.gW c->H c=none)->Q (some A'.a) H'):il (some A.a) p H Q:=by
 have aA:=sm.safe
 have aw:=sm.dL
 have az:=sm.now
 have ay:=sm.held
 refine aE rfl (aD (aa (x:=A.s) h.row rfl (aD (aa (x:=A.f) h.row rfl ?_))))
 refine AW h.safe (by omega) (by omega) λB H1 Y o1 v1=>⟨(h.ext Y).row.cell rfl,Hf (h.ext Y).dL (by omega) (by omega) λO H2 x2 o2 v2=>?_⟩
 refine jf λa H3 x3 an f3=>?_
 have af:=(Y.trans x2).trans x3
 have fa:H a.block=none:=(Y.trans x2).none f3
 have am:jr H O:=o2.ext Y
 have d12:∀c,B.has c->¬O.has c:=λc h1 h2=>jD (bT.dA v1 h1) (o2 c h2)
 have F:¬B.has a.block:=λb=>jD (bT.dA (v1.ext x2) b) f3
 have ac:¬O.has a.block:=λb=>jD (dE.dA v2 b) f3
 refine aD (aa (x:=A.h) (h.ext af).row rfl ?_)
 rw[h.held.bF]
 refine ax D.held.length (λk s Hk=>s=((dV m D.safe D.held k).2,(k:Int))/\Ext H Hk/\aZ Hk a [Sl.v B,Sl.v Sl.nil,Sl.v Sl.nil,Sl.v O,.int .i64 (-1),.int .i64 0,.bool false]/\bT gN 64 Hk B (dV m D.safe D.held k).1/\dE Value.bool Hk O D.dL)
  ⟨rfl,af,an,(v1.ext (x2.trans x3)),v2.ext x3⟩ ?_
 rintro k s H4 again hk ⟨rfl,x4,K,v4,u4⟩ U
 refine aL (λal=>?_) (λaj=>?_)
 ·have V:k<D.held.length:=by simpa using al
  have h4:=h.ext x4
  refine aF (qv h4.held (by omega) (by omega) λa5 w el=>UP w5 el ?_)
  have C:=el.get
  rw[Int.toNat_natCast] at C
  obtain⟨w0,w1⟩:=sm.at_ w (List.mem_of_getElem? C)
  have j:dV m D.safe D.held (k+1)=mX m (dV m D.safe D.held k) k w:=by
   show(match D.held[k]? with|some w=>_|none=>_)=_
   rw[C]
  refine jf λq H6 x6 r6 f6=>⟨w5 w,sO r6 (by rw[w5];rfl) (Sd w) λg r7 k7=>?_⟩
  have oT:∀c o,H4 c=some o->g c=some o:=λc o b=>k7 c o (x6 c o b) λe=>by subst e;rw[f6] at b;cases b
  have l:Ext H4 g:=oT
  have x7:=x4.trans l
  have d:=K.ext l
  have v7:=v4.ext l
  have u7:=u4.ext l
  have ew:IntKind.wrap .i64 ((k:Int)+1)=((k+1:Nat):Int):=by rw[bA (by omega) (by omega)];push_cast;rfl
  obtain⟨p0,p1⟩:=Qr m k
  have e3:(fj m k).tmod 3=fj m k% 3:=Int.tmod_eq_emod_of_nonneg p0
  have J:=sA m D.safe D.held k
  have go:aJ ((fj m k).tmod 3==1)
   (aH Sl.v g (a.add 0) λaq=>aH (.int .i64) g (q.add 0) λl=>AF g (q.add 1) 64 λar=>bX aq 64 l λai=>Bu g ai 64 ar λah=>again ((dV m D.safe D.held k).2,IntKind.wrap .i64 ((k:Int)+1)) ah)
   (aM (λ(ap:Bool) (E:PH)=>aJ ap
    (aH Sl.v E (a.add 0) λZ=>aH (.int .i64) E (q.add 0) λab=>bX Z 64 ab λS=>zA 64 S 1 0 (IntKind.wrap .i64 (Int.tdiv (fj m k) 3)) λW=>zA 64 (q.add 1) 1 0 64 λX=>mZ E 1 W X λau R=>again (true,IntKind.wrap .i64 ((k:Int)+1)) R)
    (again ((dV m D.safe D.held k).2,IntKind.wrap .i64 ((k:Int)+1)) E))
   λae=>aJ ((fj m k).tmod 3==2) (ae (!(dV m D.safe D.held k).2) g) (ae false g)):=by
   rw[ew,e3]
   have stay:dV m D.safe D.held (k+1)=dV m D.safe D.held k->again ((dV m D.safe D.held k).2,((k+1:Nat):Int)) g:=λhe=>
    U V _ _ ⟨by rw[he],x7,d,by rw[he];exact v7,u7⟩
   refine aL (λe1=>?_) (λe1=>?_)
   ·have t:fj m k% 3=1:=by simpa using e1
    have z:dV m D.safe D.held (k+1)=((dV m D.safe D.held k).1.set w.1.toNat w.2,(dV m D.safe D.held k).2):=by rw[j,mX,if_pos t]
    refine aa (x:=B) d rfl (aa (x:=w.1) r7 rfl ⟨gN w.2,?_,?_⟩)
    ·rw[aZ.part r7 (by rw[w5];omega)]
     show some ((gN w.2).take 64)=_
     rw[List.take_of_length_le (by rw[qW];omega)]
    ·refine qv v7 w0 (by rw[J];omega) λa8 y G=>⟨qW w.2,IJ (y:=w.2) qW G (Fj _) λH8 v8 k8=>U V _ _ ⟨by rw[z],x7.oT k8 o1,?_,by rw[z];exact v8,?_⟩⟩
     ·exact⟨d.1,d.2.1,let⟨e,he⟩:=d.2.2;⟨e,k8 _ _ he F⟩⟩
     ·exact dE.cQ u7 λc o b n=>k8 c o n λhh=>d12 c hh b
   ·have t:¬fj m k% 3=1:=by simpa using e1
    have P:fj m k% 3=2->(dV m D.safe D.held k).2=false->aH Sl.v g (a.add 0) λZ=>aH (.int .i64) g (q.add 0) λab=>bX Z 64 ab λS=>zA 64 S 1 0 (IntKind.wrap .i64 (Int.tdiv (fj m k) 3)) λW=>zA 64 (q.add 1) 1 0 64 λX=>mZ g 1 W X λau R=>again (true,((k+1:Nat):Int)) R:=by
     intro e2 M
     have z:dV m D.safe D.held (k+1)=((dV m D.safe D.held k).1.set w.1.toNat (CB ((dV m D.safe D.held k).1.getD w.1.toNat pj) w.2 (fj m k/ 3).toNat),true):=by
      rw[j,mX,if_neg t,if_pos ⟨e2,M⟩]
     have ed:IntKind.wrap .i64 (Int.tdiv (fj m k) 3)=fj m k/ 3:=by rw[Int.tdiv_eq_ediv_of_nonneg p0,bA (by omega) (by omega)]
     rw[ed]
     obtain⟨N,hN⟩:=Int.eq_ofNat_of_zero_le (show 0<=fj m k/ 3 by omega)
     refine aa (x:=B) d rfl (aa (x:=w.1) r7 rfl (qv v7 w0 (by rw[J];omega) λa8 y G=>?_))
     refine⟨_,⟨by omega,by omega,by omega,rfl⟩,_,⟨by omega,by omega,by omega,rfl⟩,?_⟩
     have ea:(if 64=(0:Int).toNat then a8 else a8.add ((0:Int).toNat*1))=a8:=by simp[add_zero']
     rw[ea,hN]
     have ak:(dV m D.safe D.held k).1.getD w.1.toNat pj=y:=by simp[List.getD,G.get]
     have ag:bw g (q.add 1) N=some ((w.2.1.take N).map (Value.int .u8)):=by
      rw[aZ.part r7 (by rw[w5];omega)]
      show some ((gN w.2).take N)=_
      simp[gN,List.map_take]
     refine MF (y:=w.2) (sa:=q.add 1) G (by omega) (by simp[add_zero']) (by simp;omega) (by simpa using ag) λr H8 v8 k8=>U V _ _ ⟨by rw[z],x7.oT k8 o1,?_,?_,?_⟩
     ·exact⟨d.1,d.2.1,let⟨e,he⟩:=d.2.2;⟨e,k8 _ _ he F⟩⟩
     ·rw[z,ak,hN]
      simpa using v8
     ·exact dE.cQ u7 λc o b n=>k8 c o n λhh=>d12 c hh b
    refine aF (aL (λe2=>?_) (λe2=>?_))
    ·have T:fj m k% 3=2:=by simpa using e2
     refine aL (λM=>P T (by simpa using M)) (λM=>stay ?_)
     rw[j,mX,if_neg t,if_neg (by simp at M;simp[M])]
    ·have T:¬fj m k% 3=2:=by simpa using e2
     refine aE rfl (stay ?_)
     rw[j,mX,if_neg t,if_neg (by simp[T])]
  refine aF (aL (λu=>?_) (λu=>?_))
  ·have I:k<m.length:=by simp at u;rw[hp.1] at u;omega
   refine eJ (hp.ext x7) (by simp) (by simpa using I) λx hx=>?_
   rw[show((k:Int)).toNat=k by simp] at hx
   have:(IntKind.wrap .i64 (x.tmod 192+192)).tmod 192=fj m k:=by
    rw[OM,fj,if_pos I];simp[List.getD,hx]
   rw[this];exact go
  ·have I:¬k<m.length:=by simp at u;rw[hp.1] at u;omega
   have:fj m k=0:=by rw[fj,if_neg I]
   have go':=go
   rw[this] at go';exact go'
 ·have:k=D.held.length:=by simp at aj;omega
  subst this
  have av:=sA m D.safe D.held D.held.length
  refine aa (x:=B) K rfl (AW v4 (by omega) (by omega) λr3 H5 x5 o5 v5=>?_)
  refine tI (K.ext x5) (by simp) rfl λH6 ao k6=>?_
  have f4:H4 a.block≠none:=by obtain⟨e,he⟩:=K.2.2;rw[he];simp
  have ad:¬r3.has a.block:=λb=>f4 (o5 _ b)
  refine hQ ⟨a,B,r3,Sl.nil,O⟩ H6 ((x4.trans x5).BC k6 fa) ⟨ao,?_,?_,.inl ⟨rfl,rfl⟩,?_,⟨F,ad,kS,ac,?_,λ_ _=>kS,d12,λ_ _=>kS,?_,λc b=>absurd b kS⟩⟩ ?_
  ·exact(v4.ext x5).cQ λc o b n=>k6 c o n λe=>F (e▸b)
  ·exact v5.cQ λc o b n=>k6 c o n λe=>ad (e▸b)
  ·exact dE.cQ (u4.ext x5) λc o b n=>k6 c o n λe=>ac (e▸b)
  ·exactλc h1 h3=>jD (bT.dA v4 h1) (o5 c h3)
  ·exactλc h3 h2=>jD (dE.dA u4 h2) (o5 c h3)
  ·rintro c (rfl|b|b|b|b)
   ·exact fa
   ·exact o1 c b
   ·exact x4.none (o5 c b)
   ·exact absurd b kS
   ·exact am c b
theorem n5 {α:Type} {L:List α} {i:Nat} {O:α} (h:L[i]?=some O):L.set i O=L:=by
 apply List.ext_getElem?
 intro j
 by_cases e:i=j
 ·subst e;rw[List.getElem?_set_self (List.getElem?_eq_some_iff.1 h).1,h]
 ·rw[List.getElem?_set_ne e]
def av (A:DA) (D:Dk):Ob:=⟨λH=>dG H A D,A.gW,λh x=>h.cQ x,λh a=>BD (h.dA a)⟩
section
variable {H:PH} {L:List Ob} {i:Nat} {A:DA} {D:Dk}
theorem MG {a:DA} {b:Dk} {H':PH} (h:aA H L) (hi:L[i]?=some (av A D)) (d:dG H' a b) (af:BH A H a H'):aA H' (L.set i (av a b)):=
 h.dX (O':=av a b) i hi d af.gW af.beside
theorem Sf {H:PH} {A:DA} {D:Dk} {at':Int} (h:¬(0<=at'/\at'<D.now.length)):(decide (0<=at')&&decide (at'<D.now.length))=false:=by simp;omega
theorem Sg {at':Int} {Q:Sl->Int->PH->Prop} (d:dG H A D) (sm:Small D)
 (h:∀r H',aA H' [aC H,aW (Value.int .u8) r (D.rd at').1]->Q r (D.rd at').2 H'):eQ (some A.a) at' H Q:=by
 have f:(D.rd at').1=[]->Q Sl.nil (D.rd at').2 H:=λe=>h Sl.nil H (by rw[e];exact(aA.start H).AJ)
 by_cases g:0<=at'/\at'<D.now.length
 ·obtain⟨k,rfl⟩:=Int.eq_ofNat_of_zero_le g.1
  have e:D.rd k=if D.read k=0 then((D.now.getD k pj).1,0) else([],D.read k):=by rw[Dk.rd,if_pos g];rfl
  refine tR (i:=k) d sm (by omega) (λe3=>?_) (λl=>?_) (λj r H' b m x o v=>?_)
  ·have c:D.rd k=([],3):=by rw[e,e3];rfl
   have:=f (by rw[c])
   rw[c] at this;exact this
  ·have c:D.rd k=([],4):=by rw[e,l];rfl
   have:=f (by rw[c])
   rw[c] at this;exact this
  ·have c:D.rd k=(b.1,0):=by rw[e,if_pos j];simp[List.getD,m]
   have:=h r H' (by rw[c];exact(aA.start H).new (O':=aW (Value.int .u8) r b.1) x v o)
   rw[c] at this;exact this
 ·have e:D.rd at'=([],1):=by rw[Dk.rd,if_neg g]
  refine ny d ?_
  rw[Sf (H:=H) (A:=A) g]
  refine ae rfl ?_
  have:=f (by rw[e])
  rw[e] at this;exact this
theorem Qs {Q:Int->PH->Prop} (h:aA H L) (hi:L[i]?=some (av A D)) (sm:Small D)
 (d:∀b H',b.a=A.a->aA H' (L.set i (av b D.fl.1))->Q D.fl.2 H'):fR (some A.a) H Q:=
 KC (h.get i hi) sm λb H' c af=>d b H' af.same (MG h hi c af)
theorem Dw {p:Sl} {m:List Int} {Q:Option Addr->PH->Prop} (d:dG H A D) (sm:Small D) (e:0<D.now.length) (h:fv H p m)
 (g:∀b H',aA H' [aC H,av b (D.ku m)]->Q (some b.a) H'):il (some A.a) p H Q:=
 KD d sm e h λb H' x c f=>g b H' ((aA.start H).new (O':=av b (D.ku m)) x c f)
end
end Ds
end
end Go.Proofs.YtbijlklgbfminaaGreat
section
namespace KM
abbrev bU (l:Bs):Prop:=∀x,x∈l->0<=x/\x<=255
theorem bU.get {l:List Int} (h:bU l) {i:Nat} {x:Int} (a:l[i]?=some x):0<=x/\x<=255:=h x (List.mem_of_getElem? a)
structure cM (k:Nat) (D:Dk):Prop where
 off:D.off=false
 lf:D.lf= -1
 iB:0<=D.iB/\D.iB<=k
 held:D.held.length<=k
 at_:∀w∈D.held,0<=w.1/\w.1<D.now.length
 now:D.now.length<=4096
 safe:D.safe.length=D.now.length
 dL:D.dL.length=D.now.length
 nf:∀f∈D.dL,f=false
 bn:∀b∈D.now,bU b.1
 bs:∀b∈D.safe,bU b.1
 bh:∀w∈D.held,bU w.2.1
theorem cM.mono {k m:Nat} {D:Dk} (h:cM k D) (hm:k<=m):cM m D:={h with iB:=⟨h.iB.1,by have:=h.iB.2;omega⟩,held:=Nat.le_trans h.held hm}
theorem F1 {D:Dk} (a:D.off=false) (hf:D.lf= -1):D.act=({D with iB:=D.iB+1,off:=false,lf:= -1},true):=by
 unfold Dk.act
 rw[a,hf];rfl
theorem F3 {b:Bs} (h:b.length=64):xf b=⟨b,h⟩:=by rw[xf,dif_pos h]
theorem EX {b:Bs} (h:b.length=64):(xf b).1=b:=by rw[F3 h]
theorem UA {D:Dk} {k:Nat} (ok:cM k D) {at_:Int} {b:Bs} (h:0<=at_/\at_<D.now.length) (a:b.length=64):D.wr at_ b=(⟨D.safe,D.now.set at_.toNat (xf b),D.held++[(at_,xf b)],D.dL,-1,D.iB+1,false⟩,0):=by
 rw[Dk.wr,if_pos ⟨h,a⟩,Dk.write,F1 ok.off ok.lf]
 simp only[if_true]
 rw[Int.toNat_of_nonneg h.1]
theorem MH {D:Dk} {k:Nat} (ok:cM k D) {at_:Int} {b:Bs} (h:0<=at_/\at_<D.now.length) (a:b.length=64):D.put at_ b=⟨D.safe,D.now.set at_.toNat (xf b),D.held++[(at_,xf b)],D.dL,-1,D.iB+1,false⟩:=by
 rw[Dk.put,UA ok h a]
theorem uU {D:Dk} {k:Nat} (ok:cM k D) {at_:Int} {b:Bs} (h:0<=at_/\at_<D.now.length) (a:b.length=64):(D.put at_ b).now.length=D.now.length:=by
 rw[MH ok h a];simp
theorem cM.put {D:Dk} {k:Nat} (ok:cM k D) {at_:Int} {b:Bs} (h:0<=at_/\at_<D.now.length) (d:b.length=64) (e:bU b):cM (k+1) (D.put at_ b):=by
 rw[MH ok h d]
 refine⟨rfl,rfl,⟨by show 0<=D.iB+1;have:=ok.iB;omega,by show D.iB+1<=_;have:=ok.iB;omega⟩,by simp;exact ok.held,λw hw=>?_,by simp;exact ok.now,by simp;exact ok.safe,by simp;exact ok.dL,ok.nf,λc a=>?_,ok.bs,λw hw=>?_⟩
 ·simp only[List.length_set]
  rcases List.mem_append.1 hw with hw|hw
  ·exact ok.at_ w hw
  ·have:=List.mem_singleton.1 hw;subst this;exact h
 ·rcases List.mem_or_eq_of_mem_set a with a|a
  ·exact ok.bn c a
  ·subst a;rw[EX d];exact e
 ·rcases List.mem_append.1 hw with hw|hw
  ·exact ok.bh w hw
  ·have:=List.mem_singleton.1 hw;subst this;simp only[EX d];exact e
theorem F4 {D:Dk} {k:Nat} (ok:cM k D):D.fl=(⟨lN D.safe D.held,D.now,[],D.dL,-1,D.iB+1,false⟩,0):=by
 rw[Dk.fl,Dk.flush,F1 ok.off ok.lf];rfl
theorem EY {D:Dk} {k:Nat} (ok:cM k D):D.flush=⟨lN D.safe D.held,D.now,[],D.dL,-1,D.iB+1,false⟩:=congrArg Prod.fst (F4 ok)
theorem KE (l:List (Int×gq)):∀s:List gq,(lN s l).length=s.length:=by
 induction l with
 |nil=>intro s;rfl
 |cons w l a=>intro s;rw[lN,List.foldl_cons];exact(a _).trans (by simp)
theorem KF (l:List (Int×gq)) {P:gq->Prop}:∀s:List gq,(∀b∈s,P b)->(∀w∈l,P w.2)->∀b∈lN s l,P b:=by
 induction l with
 |nil=>intro s e _ b d;exact e b d
 |cons w l h=>
  intro s e f b d
  refine h (s.set w.1.toNat w.2) (λc a=>?_) (λv g=>f v (by simp[g])) b d
  rcases List.mem_or_eq_of_mem_set a with a|a
  ·exact e c a
  ·subst a;exact f w (by simp)
theorem cM.flush {D:Dk} {k:Nat} (ok:cM k D):cM (k+1) D.flush:=by
 rw[EY ok]
 refine⟨rfl,rfl,⟨by show 0<=D.iB+1;have:=ok.iB;omega,by show D.iB+1<=_;have:=ok.iB;omega⟩,by simp,λw hw=>by simp at hw,ok.now,by show(lN _ _).length=_;rw[KE];exact ok.safe,ok.dL,ok.nf,ok.bn,KF _ _ ok.bs ok.bh,λw hw=>by simp at hw⟩
theorem nS {D:Dk} {k:Nat} (ok:cM k D):D.flush.now.length=D.now.length:=by rw[EY ok]
theorem UB {D:Dk} {k:Nat} (ok:cM k D) (i:Nat):D.dL.getD i false=false:=by
 rw[List.getD]
 cases h:D.dL[i]? with
 |none=>rfl
 |some f=>exact ok.nf f (List.mem_of_getElem? h)
theorem Ps {D:Dk} {k:Nat} (ok:cM k D) {at_:Int} (h:0<=at_/\at_<D.now.length):D.rd at_=((D.now.getD at_.toNat pj).1,0):=by
 have e:D.read at_.toNat=0:=by rw[Dk.read,ok.off,UB ok];rfl
 rw[Dk.rd,if_pos h,if_pos e]
theorem F5 {D:Dk} {k:Nat} (ok:cM k D) {at_:Int} (h:0<=at_/\at_<D.now.length):D.sec at_=(D.now.getD at_.toNat pj).1:=by rw[Dk.sec,Ps ok h]
theorem Sh {D:Dk} {k:Nat} (ok:cM k D) {at_:Int} (h:0<=at_/\at_<D.now.length):D.rd at_=(D.sec at_,0):=by rw[F5 ok h,Ps ok h]
theorem o0 {D:Dk} {k:Nat} (ok:cM k D) {at_:Int} (h:0<=at_/\at_<D.now.length):(D.sec at_).length=64:=by rw[F5 ok h];exact(D.now.getD at_.toNat pj).2
theorem xg:bU pj.1:=λx a=>by rw[(List.mem_replicate.1 a).2];omega
theorem sB {D:Dk} {k:Nat} (ok:cM k D) {at_:Int} (h:0<=at_/\at_<D.now.length):bU (D.sec at_):=by
 rw[F5 ok h,List.getD]
 cases a:D.now[at_.toNat]? with
 |none=>exact xg
 |some b=>exact ok.bn b (List.mem_of_getElem? a)
theorem w6 {D:Dk} {k:Nat} (ok:cM k D):∀(n:Nat) (at_:Int),0<=at_->at_+n<=D.now.length->(D.gw at_ n).length=64*n
 | 0,_,_,_=>rfl
 |n+1,at_,a,b=>by
  rw[Dk.gw,List.length_append,o0 ok ⟨a,by omega⟩,w6 ok n (at_+1) (by omega) (by omega)];omega
theorem zQ {D:Dk} {k:Nat} (ok:cM k D):∀(n:Nat) (at_:Int),0<=at_->at_+n<=D.now.length->bU (D.gw at_ n)
 | 0,_,_,_=>λx a=>by simp[Dk.gw] at a
 |n+1,at_,b,c=>λx a=>by
  rw[Dk.gw] at a
  rcases List.mem_append.1 a with a|a
  ·exact sB ok ⟨b,by omega⟩ x a
  ·exact zQ ok n (at_+1) (by omega) (by omega) x a
theorem AX (D:Dk):∀(n:Nat) (at_:Int),D.gw at_ (n+1)=D.gw at_ n++D.sec (at_+n)
 | 0,at_=>by simp[Dk.gw]
 |n+1,at_=>by
  rw[Dk.gw,AX D n (at_+1),Dk.gw,List.append_assoc]
  congr 3;omega
theorem BI:∀(l:List Bs) {D:Dk} {at_:Int} {n:Nat},cM n D->0<=at_->at_+l.length<=D.now.length->(∀b∈l,b.length=64/\bU b)->cM (n+l.length) (D.kQ at_ l)/\(D.kQ at_ l).now.length=D.now.length
 |[],D,at_,n,ok,_,_,_=>⟨ok,rfl⟩
 |b::l,D,at_,n,ok,f,j,g=>by
  rw[List.length_cons] at j
  have d:=g b (by simp)
  have h:=ok.put (at_:=at_) (b:=b) ⟨f,by omega⟩ d.1 d.2
  have a:=uU ok (at_:=at_) (b:=b) ⟨f,by omega⟩ d.1
  obtain⟨i,e⟩:=BI l (at_:=at_+1) h (by omega) (by rw[a];omega) λc k=>g c (by simp[k])
  refine⟨?_,e.trans a⟩
  rw[List.length_cons,show n+(l.length+1)=n+1+l.length by omega];exact i
theorem AY:∀(l:List Bs) (D:Dk) (at_:Int) (b:Bs),D.kQ at_ (l++[b])=(D.kQ at_ l).put (at_+l.length) b
 |[],D,at_,b=>by simp[Dk.kQ]
 |c::l,D,at_,b=>by
  rw[List.cons_append,Dk.kQ,AY l,Dk.kQ,List.length_cons]
  congr 1;push_cast;omega
end KM
end
namespace Go.Proofs.YtbijlklgbfminaaGreat
section
namespace Cr
open Go Go.Kx KM AN
theorem sx {l:List Int} {k:Nat} {x:Int} (h:l[k]?=some x):l.take (k+1)=l.take k++[x]:=by
 rw[List.take_add_one,h];rfl
theorem zR {H:PH} {s:Sl} {l:List Int} {v:BitVec 32} {Q:Int->PH->Prop} (g:Bytes H s l) (r:bU l) (t:l.length< 2 ^ 62) (q:Q ((wu v l).toNat:Int) H):BF (v.toNat:Int) s H Q:=by
 refine ax l.length (λk s1 H1=>H1=H/\s1=(((wu v (l.take k)).toNat:Int),(k:Int))) ⟨rfl,rfl⟩ ?_
 rintro k s1 H1 again hk ⟨rfl,rfl⟩ n
 refine aL (λd=>?_) (λd=>?_)
 ·have f:k<l.length:=by simp at d;rw[g.1] at d;omega
  refine eJ g (by simp) (by simpa using f) λx h=>?_
  obtain⟨o,p⟩:=r.get h
  rw[show((k:Int)).toNat=k by simp] at h
  refine ax 8 (λi s2 j=>j=H1/\s2=(((xa (wu v (l.take k)) x.toNat i).toNat:Int),(i:Int))) ⟨rfl,rfl⟩ ?_
  rintro i s2 j m hi ⟨rfl,rfl⟩ b
  refine aL (λe=>?_) (λe=>?_)
  ·have a:i< 8:=by simp at e;omega
   refine aF ⟨by simp,?_⟩
   rw[OI o p a,bA (by omega) (by omega)]
   refine aL (λc=>b a _ _ ⟨rfl,?_⟩) (λc=>b a _ _ ⟨rfl,?_⟩)
   ·rw[Pp,T0];simp only[xa,Cw,c,if_true];push_cast;rfl
   ·rw[Pp];simp only[xa,Cw,c];push_cast;rfl
  ·have a:i=8:=by simp at e;omega
   subst a
   refine n f _ _ ⟨rfl,?_⟩
   rw[bA (by omega) (by omega),sx h,Bb]
   simp only[wu,List.foldl_cons,List.foldl_nil,J5]
   push_cast;rfl
 ·have:k=l.length:=by simp at d;rw[g.1] at d;omega
  subst this
  simpa using q
def Rows (H:PH) (s:Sl) (ls:List (Sl×List Int)):Prop:=b9 Sl.v H s (ls.map (·.1))/\∀p,p∈ls->Bytes H p.1 p.2/\bU p.2/\p.2.length< 2 ^ 62
theorem Rows.ext {A B:PH} {s:Sl} {ls:List (Sl×List Int)} (h:Rows A s ls) (b:Ext A B):Rows B s ls:=⟨h.1.ext b,λp a=>⟨(h.2 p a).1.ext b,(h.2 p a).2⟩⟩
def cat (ls:List (Sl×List Int)):List Int:=(ls.map (·.2)).flatten
theorem ON {ls:List (Sl×List Int)} {k:Nat} {p:Sl×List Int} (h:ls[k]?=some p):cat (ls.take (k+1))=cat (ls.take k)++p.2:=by
 rw[List.take_add_one,h];simp[cat]
theorem OO {H:PH} {s:Sl} {ls:List (Sl×List Int)} {Q:Int->PH->Prop} (b:Rows H s ls) (l:ls.length< 2 ^ 62) (j:Q ((OH (cat ls)).toNat:Int) H):wO s H Q:=by
 have hlen:s.len=ls.length:=by simpa using b.1.1
 refine ax ls.length (λk s1 H1=>H1=H/\s1=(((wu (BitVec.allOnes 32) (cat (ls.take k))).toNat:Int),(k:Int))) ⟨rfl,rfl⟩ ?_
 rintro k s1 H1 again hk ⟨rfl,rfl⟩ d
 refine aL (λc=>?_) (λc=>?_)
 ·have a:k<ls.length:=by simp at c;omega
  refine eJ b.1 (by simp) (by simpa using a) λx f=>?_
  simp only[Int.toNat_natCast,List.getElem?_map,Option.map_eq_some_iff] at f
  obtain⟨p,e,rfl⟩:=f
  obtain⟨g,h,i⟩:=b.2 p (List.mem_of_getElem? e)
  refine zR g h i (d a _ _ ⟨rfl,?_⟩)
  rw[bA (by omega) (by omega),ON e,Bb]
  push_cast;rfl
 ·have:k=ls.length:=by simp at c;omega
  subst this
  rw[T3,SZ]
  rw[List.take_length];exact j
theorem OP {H:PH}:Rows H Sl.nil []:=⟨.nil,λp a=>by cases a⟩
end Cr
end
end Go.Proofs.YtbijlklgbfminaaGreat
section
namespace Go.Kx
section
variable {H H' B:PH} {L L':List Ob} {O O':Ob}
theorem aA.iff:aA H L↔(∀O,O∈L->O.pred H)/\L.Pairwise Dj:=by
 constructor
 ·intro h
  refine⟨λO f=>?_,List.pairwise_iff_getElem.2 λi j hi a g=>h.dj i j _ _ (List.getElem?_eq_getElem hi) (List.getElem?_eq_getElem a) (by omega)⟩
  obtain⟨i,hi,rfl⟩:=List.mem_iff_getElem.1 f
  exact h.all i _ (List.getElem?_eq_getElem hi)
 ·rintro⟨d,e⟩
  refine⟨λi O hi=>d O (List.mem_of_getElem? hi),λi j A C hi a b=>?_⟩
  obtain⟨l1,e1⟩:=List.getElem?_eq_some_iff.1 hi
  obtain⟨l2,e2⟩:=List.getElem?_eq_some_iff.1 a
  have c:=List.pairwise_iff_getElem.1 e
  rcases Nat.lt_or_gt_of_ne b with h|h
  ·exact e1▸e2▸c i j l1 l2 h
  ·exact(e1▸e2▸c j i l2 l1 h:Dj C A).symm
theorem aA.perm (h:aA H L) (p:L.Perm L'):aA H L':=by
 rw[aA.iff] at h ⊢
 exact⟨λO a=>h.1 O (p.mem_iff.2 a),(p.pairwise_iff λh=>h.symm).1 h.2⟩
theorem aA.up (h:aA H (aC B::(L++[O]))):aA H (aC B::O::L):=h.perm (.cons _ (List.perm_append_comm (l₁:=L) (l₂:=[O])))
theorem aA.swap (h:aA H (aC B::O::O'::L)):aA H (aC B::O'::O::L):=h.perm (.cons _ (.swap _ _ _))
theorem aA.Uf {X Y:List Ob} (h:aA H (aC B::(X++Y))):aA H (aC B::(Y++X)):=h.perm (.cons _ List.perm_append_comm)
theorem aA.ak (h:aA H (aC B::O::L)):aA H (aC B::L):=by
 rw[aA.iff] at h ⊢
 simp only[List.mem_cons,List.pairwise_cons,forall_eq_or_imp] at h ⊢
 exact⟨⟨h.1.1,h.1.2.2⟩,⟨h.2.1.2,h.2.2.2⟩⟩
theorem aA.fz (h:aA H (aC B::O::L)):∃a,Ext B a/\O.pred a/\aA H (aC a::L):=
 (show aA H (aC B::L++[O]) from h.perm (.cons _ (List.perm_append_comm (l₁:=[O]) (l₂:=L)))).freeze
theorem aA.made (h:aA H (aC B::L)) (k:aA H' [aC H,O]):aA H' (aC B::O::L):=(show aA H' (aC B::(L++[O])) from h.aQ k).up
variable {α:Type} {enc:α->Value}
theorem gX {s:Sl} {l:List α} {K:Prop} (h:aA H (aC B::aW enc s l::L)) (c:∀a,Ext B a->b9 enc a s l->aA H (aC a::L)->K):K:=by
 obtain⟨a,x,p,b⟩:=h.fz
 exact c a x (dE.list p) b
theorem AZ {a:Addr} {cs:List Value} {K:Prop} (h:aA H (aC B::aG a cs::L)) (d:∀b,Ext B b->aZ b a cs->aA H (aC b::L)->K):K:=by
 obtain⟨b,x,p,c⟩:=h.fz
 exact d b x p c
theorem sX {l:List α} {cs:List Value} {e n:Nat} {K:Sl->PH->Prop} (h:aA H (aC B::L)) (g:cs=l.map enc) (i:n=l.length) (f:∀r a H',Ext B a->b9 enc a r l->aA H' (aC a::L)->K r H'):bV H (row cs e) n K:=by
 intro r H' b
 subst g;subst i
 have c:aA H' (aC B::(L++[aW enc r l])):=h.new (O':=aW enc r l) (.lX b) (dE.gI (l:=l) (e:=e) b) (jr.gI b)
 exact gX c.up λa x v d=>f r a H' x v d
theorem fM {cs:List Value} {e:TypeId} {K:Addr->PH->Prop} (h:aA H (aC B::L)) (f:∀a b H',Ext B b->aZ b a cs->aA H' (aC b::L)->K a H'):ag H (row cs e) K:=
 kV h λa H' c x=>AZ (show aA H' (aC B::aG a cs::L) from(show aA H' (aC B::(L++[aG a cs])) from c).up) λb x r d=>f a b H' x r d
theorem az {cs:List Value} {e:TypeId} {K:Addr->PH->Prop} (h:aA H (aC B::L)) (c:∀a H',aA H' (aC B::aG a cs::L)->K a H'):ag H (row cs e) K:=
 kV h λa H' b x=>c a H' (show aA H' (aC B::(L++[aG a cs])) from b).up
theorem F9 {e m:Nat} {x:α} {n:Int} {K:Sl->PH->Prop} (h:aA H (aC B::L)) (b:0<=n) (hm:(m:Int)*n<=2 ^ 48)
 (c:∀r H',aA H' (aC B::aW enc r (List.replicate n.toNat x)::L)->K r H'):xO H e m [enc x] n n K:=
 SB h b hm λr H' a x=>c r H' (show aA H' (aC B::(L++[aW enc r _])) from a).up
theorem GA {l:List α} {cs:List Value} {e n:Nat} {K:Sl->PH->Prop} (h:aA H (aC B::L)) (c:cs=l.map enc) (d:n=l.length) (b:∀r H',aA H' (aC B::aW enc r l::L)->K r H'):bV H (row cs e) n K:=by
 intro r H' a
 subst c;subst d
 exact b r H' (show aA H' (aC B::(L++[aW enc r l])) from h.new (O':=aW enc r l) (.lX a) (dE.gI (l:=l) (e:=e) a) (jr.gI a)).up
theorem Iz {l:List α} {cs:List Value} {e n:Nat} {K:Sl->PH->Prop} (h:aA H (aC B::L)) (c:cs=l.map enc) (d:n=l.length) (b:∀r H',aA H' (aC B::aW enc r l::L)->Ext H H'->K r H'):bV H (row cs e) n K:=by
 intro r H' a
 subst c;subst d
 exact b r H' (show aA H' (aC B::(L++[aW enc r l])) from h.new (O':=aW enc r l) (.lX a) (dE.gI (l:=l) (e:=e) a) (jr.gI a)).up (.lX a)
theorem dC {cs:List Value} {e:TypeId} {K:Addr->PH->Prop} (h:aA H (aC B::L)) (c:∀a H',aA H' (aC B::aG a cs::L)->Ext H H'->K a H'):ag H (row cs e) K:=
 kV h λa H' b x=>c a H' (show aA H' (aC B::(L++[aG a cs])) from b).up x
theorem Qt {l:List α} {cs:List Value} {e n:Nat} {K:Sl->PH->Prop} (h:aA H (aC B::L)) (f:cs=l.map enc) (g:n=l.length) (d:∀r a H',Ext B a->b9 enc a r l->aA H' (aC a::L)->Ext H H'->K r H'):bV H (row cs e) n K:=
 Iz h f g λr H' b x=>gX b λa i v c=>d r a H' i v c x
theorem zU (h:aA H (aC B::L)):aA H (aC B::aW enc Sl.nil ([]:List α)::L):=(show aA H (aC B::(L++[aW enc Sl.nil ([]:List α)])) from h.AJ).up
theorem ay {β:Type} {en:β->Value} {a:Addr} {cs:List Value} {j:Nat} {x:β} {K:β->Prop} (h:aA H (aC B::aG a cs::L)) (c:cs[j]?=some (en x)) (b:K x):aH en H (a.add j) K:=aa (h.get 1 rfl) c b
theorem bk {β:Type} {en:β->List Value} {a:Addr} {n:Nat} {x:β} {cs:List Value} {K:β->Prop} (h:aA H (aC B::aG a cs::L)) (c:cs=en x) (d:n=cs.length) (b:K x):aU en H a n K:=by subst c;exact fF (h.get 1 rfl) d b
theorem xi {a:Addr} {cs:List Value} {j:Nat} {v:Value} {K:PH->Prop} (h:aA H (aC B::aG a cs::L)) (d:j<cs.length) (e:cI v=true) (c:∀H',aA H' (aC B::aG a (cs.set j v)::L)->K H'):aX H (a.add j) [v] K:=cB h 1 rfl d e λH' b=>c H' b
theorem bf {a:Addr} {cs vs:List Value} {K:PH->Prop} (h:aA H (aC B::aG a cs::L)) (e:vs.length=cs.length) (g:vs.all cI=true) (d:∀H',aA H' (aC B::aG a vs::L)->K H'):aX H a vs K:=
 sO (h.get 1 rfl) e g λH' r k=>d H' (h.dX (O':=aG a vs) 1 rfl r (λc b=>.inl b) λc o b f=>k c o b f)
theorem KG {a:Addr} {cs:List Value} {j:Nat} {v:Value} {K:PH->Prop} (h:aA H L) (i:Nat) (hi:L[i]?=some (aG a cs)) (c:j<cs.length) (d:cI v=true) (b:∀H',aA H' (L.set i (aG a (cs.set j v)))->K H'):aX H ((a.add 0).add j) [v] K:=by
 rw[add_zero'];exact cB h i hi c d b
theorem eU {a:Addr} {cs vs:List Value} {K:PH->Prop} (h:aA H L) (i:Nat) (hi:L[i]?=some (aG a cs)) (e:vs.length=cs.length) (g:vs.all cI=true) (d:∀H',aA H' (L.set i (aG a vs))->K H'):aX H a vs K:=
 sO (h.get i hi) e g λH' r k=>d H' (h.dX (O':=aG a vs) i hi r (λc b=>.inl b) λc o b f=>k c o b f)
theorem bj {β:Type} {en:β->List Value} {a:Addr} {n:Nat} {x:β} {cs:List Value} {K:β->Prop} (h:aA H L) (i:Nat) (hi:L[i]?=some (aG a cs)) (c:cs=en x) (d:n=cs.length) (b:K x):aU en H a n K:=by subst c;exact fF (h.get i hi) d b
theorem UC {c b:Bool} {F:Prop} {K:Bool->PH->Prop} (d:K b H->F) (h:K (c&&b) H):aJ c F (K false H):=aL (λa=>d (by rw[a] at h;exact h)) (λa=>by rw[a] at h;exact h)
theorem Vk {c b:Bool} {F:Prop} {K:Bool->PH->Prop} (d:K b H->F) (h:K (c||b) H):aJ c (K true H) F:=aL (λa=>by rw[a] at h;exact h) (λa=>d (by rw[a] at h;exact h))
theorem cq {c b:Bool} {k:Bool->PH->Prop} {F:(Bool->PH->Prop)->Prop} (a:k b H->F k) (h:k (c&&b) H):aM k λj=>aJ c (F j) (j false H):=aF (UC (K:=k) a h)
theorem vk {c b:Bool} {k:Bool->PH->Prop} {F:(Bool->PH->Prop)->Prop} (a:k b H->F k) (h:k (c||b) H):aM k λj=>aJ c (j true H) (F j):=aF (Vk (K:=k) a h)
theorem Pu {c b:Bool} {k:Bool->PH->Prop} {F:(Bool->PH->Prop)->Prop} (d:c=true->k b H->F k) (h:k (c&&b) H):aM k λj=>aJ c (F j) (j false H):=
 aF (aL (λa=>d a (by rw[a] at h;exact h)) (λa=>by rw[a] at h;exact h))
theorem Si {c d:Bool} {k:Bool->PH->Prop} (h:k (c||d) H):aM k λj=>aJ c (j c H) (j d H):=
 aF (aL (λa=>by rw[a] at h ⊢; exact h) (λa=>by rw[a] at h;exact h))
theorem CD {c b:Bool} {k:Bool->PH->Prop} {F:(Bool->PH->Prop)->Prop} (d:(∀H',Ext H H'->k b H')->F k) (h:∀H',Ext H H'->k (c||b) H'):aM k λj=>aJ c (j true H) (F j):=
 aF (aL (λa=>by have:=h H (.refl H);rw[a] at this;exact this) (λa=>d λH' x=>by have:=h H' x;rw[a] at this;exact this))
theorem Pv {c b:Bool} {k:Bool->PH->Prop} {F:(Bool->PH->Prop)->Prop} (d:c=true->(∀H',Ext H H'->k b H')->F k) (h:∀H',Ext H H'->k (c&&b) H'):aM k λj=>aJ c (F j) (j false H):=
 aF (aL (λa=>d a λH' x=>by have:=h H' x;rw[a] at this;exact this) (λa=>by have:=h H (.refl H);rw[a] at this;exact this))
theorem Qu {a:Addr} {cs vs:List Value} {K:PH->Prop} (h:aA H (aC B::aG a cs::L)) (e:vs.length=cs.length) (g:vs.all cI=true) (d:∀H',aA H' (aC B::aG a vs::L)->rZ a.block H H'->K H'):aX H a vs K:=
 sO (h.get 1 rfl) e g λH' r k=>d H' (h.dX (O':=aG a vs) 1 rfl r (λc b=>.inl b) λc o b f=>k c o b f) k
theorem rZ.aQ {a:Addr} {cs:List Value} {i:Nat} {O:Ob} (k:rZ a.block H H') (h:aA H (aC B::aG a cs::L)) (hi:L[i]?=some O):∀c o,O.gW c->H c=some o->H' c=some o:=
 λc o hf b=>k c o b λe=>h.dj 1 (i+2) (aG a cs) O rfl (by simpa using hi) (by omega) c e hf
theorem pT.cQ {β:Type} {en:β->List Value} {sz:Nat} {s:Sl} {l:List β} {i:Nat} {x:β} {a:Addr} (h:pT en sz H s l i x a) (k:∀c o,s.has c->H c=some o->H' c=some o):pT en sz H' s l i x a:=by
 obtain⟨⟨b,sp,e,spare,rfl,d,f,rfl⟩,g⟩:=h
 exact⟨⟨b,sp,e,spare,rfl,d,k _ _ ⟨_,rfl,rfl⟩ f,rfl⟩,g⟩
theorem C4 {a:Addr} {n m:Nat} {cs:List Value} (h:bw H a n=some cs) (hm:m<=n):bw H a m=some (cs.take m):=by
 unfold bw at h ⊢
 by_cases b:m=0
 ·rw[if_pos b,b];rfl
 ·rw[if_neg b]
  rw[if_neg (by omega)] at h
  cases d:H a.block with
  |none=>rw[d] at h;cases h
  |some o=>cases o with
   |cells c e f=>
    rw[d] at h
    simp only at h ⊢
    split at h
    ·cases h
    ·rename_i g
     rw[if_neg g]
     split at h
     ·rename_i hle
      rw[if_pos (by omega)]
      cases h
      rw[List.take_take,Nat.min_eq_left hm]
     ·cases h
   |_=>rw[d] at h;cases h
end
end Go.Kx
end
section
namespace Go.Kx
open KM
theorem bo {x:Int} (a: -9223372036854775808<=x) (b:x< 9223372036854775808):IntKind.wrap .i64 x=x:=bA a b
set_option maxRecDepth 4000 in
theorem w7 (n:Nat) (h:n< 2 ^ 64):(BitVec.ofInt 64 (n:Int)).toNat=n:=by
 simp only[BitVec.toNat_ofInt];omega
theorem OQ {n:Int} (a:0<=n) (b:n< 2 ^ 62):kE .i64 n 255=n% 256:=by
 obtain⟨k,rfl⟩:=Int.eq_ofNat_of_zero_le a
 show IntKind.i64.wrap ((BitVec.ofInt 64 (k:Int)&&&BitVec.ofInt 64 255).toNat:Int)=_
 have e2:(BitVec.ofInt 64 255).toNat=2 ^ 8- 1:=rfl
 rw[BitVec.toNat_and,w7 k (by omega),e2,Nat.and_two_pow_sub_one_eq_mod,bo (by omega) (by omega)];exact Int.natCast_emod k 256
theorem CE {n:Int} {i:Nat} (a:0<=n) (hi:i<=60):g8 .i64 n (i:Int)=n/ 2 ^ i:=by
 simp only[g8,IntKind.bits,Int.toNat_natCast]
 rw[Nat.min_eq_left (by omega),Int.fdiv_eq_ediv_of_nonneg _ (by exact Int.le_of_lt (Int.pow_pos (by decide)))]
theorem OR (i:Nat):(2:Int) ^ (8*i)=256 ^ i:=by rw[Int.pow_mul];rfl
theorem I0 {n:Int} {i:Nat} (a:0<=n) (b:n< 2 ^ 62) (hi:i<=4):IntKind.wrap .u8 (kE .i64 (g8 .i64 n (IntKind.wrap .i64 (8*(i:Int)))) 255)=n/ 256 ^ i% 256:=by
 rw[bo (by omega) (by omega),show(8*(i:Int))=((8*i:Nat):Int) from rfl,CE a (by omega),OR]
 have a0:0<=n/ 256 ^ i:=Int.ediv_nonneg a (Int.le_of_lt (Int.pow_pos (by decide)))
 have a1:n/ 256 ^ i<=n:=Int.ediv_le_self _ a
 rw[OQ a0 (by omega)]
 simp only[IntKind.wrap,IntKind.bits,IntKind.signed,Bool.false_and,Bool.false_eq_true,if_false]
 omega
theorem OS {n:Int} {w:Nat} (a:0<=n) (b:n< 256 ^ w) (hw:w<=4):(g8 .i64 n (IntKind.wrap .i64 (8*(w:Int))) != 0)=false:=by
 rw[bo (by omega) (by omega),show(8*(w:Int))=((8*w:Nat):Int) from rfl,CE a (by omega),OR,Int.ediv_eq_zero_of_lt a b];rfl
theorem Sj {n x:Int} {i:Nat} (e:0<=n) (b:n< 256 ^ i) (x0:0<=x) (j:x<=255) (hi:i<=4):ID .i64 n (wc .i64 (IntKind.wrap .i64 x) (IntKind.wrap .i64 (8*(i:Int))))=n+x*256 ^ i:=by
 obtain⟨a,rfl⟩:=Int.eq_ofNat_of_zero_le e
 obtain⟨c,rfl⟩:=Int.eq_ofNat_of_zero_le x0
 have h:(256:Nat) ^ i<=256 ^ 4:=Nat.pow_le_pow_right (by decide) hi
 have d:a< 256 ^ i:=by
  rw[show(256:Int) ^ i=((256 ^ i:Nat):Int) from(Int.natCast_pow 256 i).symm] at b
  exact Int.ofNat_lt.1 b
 have g:c<=255:=by omega
 have hm:c*256 ^ i<=255*256 ^ 4:=Nat.mul_le_mul g h
 rw[bo (by omega) (by omega),bo (x:=8*(i:Int)) (by omega) (by omega)]
 have e1:wc .i64 (c:Int) (8*(i:Int))=((c*256 ^ i:Nat):Int):=by
  simp only[wc,IntKind.bits]
  rw[show(8*(i:Int)).toNat=8*i by omega,Nat.min_eq_left (by omega),OR]
  have:((c:Int)*256 ^ i)=((c*256 ^ i:Nat):Int):=by rw[Int.natCast_mul,Int.natCast_pow];rfl
  rw[this,bo (by omega) (by omega)]
 rw[e1]
 show IntKind.i64.wrap ((BitVec.ofInt 64 (a:Int)|||BitVec.ofInt 64 ((c*256 ^ i:Nat):Int)).toNat:Int)=_
 rw[BitVec.toNat_or,w7 a (by omega),w7 _ (by omega)]
 have e2:a|||c*256 ^ i=a+c*256 ^ i:=by
  have f:(256:Nat) ^ i=2 ^ (8*i):=by rw[Nat.pow_mul]
  rw[f] at d ⊢
  have:=Nat.two_pow_add_eq_or_of_lt d c
  rw[Nat.or_comm,Nat.mul_comm c,←this,Nat.add_comm]
 rw[e2,bo (by omega) (by omega),Int.natCast_add,Int.natCast_mul,Int.natCast_pow];rfl
theorem GB:∀(l:Bs) (x:Int),val (l++[x])=val l+x*256 ^ l.length
 |[],x=>by simp[val]
 |y::l,x=>by
  simp only[List.cons_append,val,GB l x,List.length_cons,Int.pow_succ]
  rw[Int.mul_add,Int.mul_comm (256 ^ l.length) 256,←Int.mul_assoc x,Int.mul_comm x 256,Int.mul_assoc 256 x];omega
theorem xj:∀(l:Bs),(∀x∈l,0<=x/\x<=255)->0<=val l/\val l< 256 ^ l.length
 |[],_=>by simp[val]
 |x::l,h=>by
  have b:=h x (by simp)
  have c:=xj l λy a=>h y (by simp[a])
  simp only[val,List.length_cons,Int.pow_succ]
  omega
theorem le_succ (w:Nat) (n:Int):le (w+1) n=le w n++[n/ 256 ^ w% 256]:=by
 induction w generalizing n with
 |zero=>simp[le]
 |succ w a=>
  rw[le,a,le]
  simp only[List.cons_append,List.cons.injEq,true_and]
  rw[Int.ediv_ediv_of_nonneg (by decide),Int.pow_succ,Int.mul_comm]
theorem I1 (w:Nat) (n:Int):∀k,k<=w->(le w n).take k=le k n:=by
 induction w generalizing n with
 |zero=>intro k hk;have:k=0:=by omega
        subst this;rfl
 |succ w a=>
  intro k hk
  cases k with
  |zero=>rfl
  |succ k=>rw[le,List.take_succ_cons,a _ k (by omega),le]
theorem C5:∀(l:List Int) (s:ByteArray),(l.foldl (λs n=>s.push (UInt8.ofNat n.toNat)) s).data.toList=s.data.toList++l.map λn=>UInt8.ofNat n.toNat
 |[],s=>by simp
 |x::l,s=>by
  rw[List.foldl_cons,C5 l]
  simp[ByteArray.push]
theorem Aa (l:List Int):(strOf l).data.toList=l.map λn=>UInt8.ofNat n.toNat:=by
 have:=C5 l ByteArray.empty
 simpa[strOf] using this
theorem Hg (bs:ByteArray):∀(n i:Nat) (r:List UInt8),i+n=bs.size->ByteArray.toList.loop bs i r=r.reverse++bs.data.toList.drop i:=by
 intro n
 induction n with
 |zero=>
  intro i r h
  rw[ByteArray.toList.loop,if_neg (by omega),List.drop_eq_nil_of_le (by have:bs.data.toList.length=bs.size:=rfl
                                                                        omega)];simp
 |succ n b=>
  intro i r h
  have c:bs.data.toList.length=bs.size:=rfl
  have a:i<bs.data.toList.length:=by omega
  rw[ByteArray.toList.loop,if_pos (by omega),b _ _ (by omega),List.drop_eq_getElem_cons a]
  have:bs.get! i=bs.data.toList[i]:=by
   simp only[ByteArray.get!]
   rw[getElem!_pos bs.data i (by simpa using a)];simp
  rw[this];simp
theorem Bc (bs:ByteArray):bs.toList=bs.data.toList:=by
 have:=Hg bs bs.size 0 [] (by omega)
 simpa[ByteArray.toList] using this
theorem GC {l m:List Int} (d:∀x∈l,0<=x/\x<=255) (hm:∀x∈m,0<=x/\x<=255):(strOf l).toList=(strOf m).toList↔l=m:=by
 rw[Bc,Bc,Aa,Aa]
 constructor
 ·intro h
  have inj:∀(l m:List Int),(∀x∈l,0<=x/\x<=255)->(∀x∈m,0<=x/\x<=255)->l.map (λn=>UInt8.ofNat n.toNat)=m.map (λn=>UInt8.ofNat n.toNat)->l=m:=by
   intro l
   induction l with
   |nil=>intro m _ _ h;cases m with
    |nil=>rfl
    |cons=>simp at h
   |cons x l f=>
    intro m b c h
    cases m with
    |nil=>simp at h
    |cons y m=>
     simp only[List.map_cons,List.cons.injEq] at h
     have g:=b x (by simp)
     have i:=c y (by simp)
     have e:x.toNat=y.toNat:=by
      have:=congrArg UInt8.toNat h.1
      simp only[UInt8.toNat_ofNat'] at this
      omega
     rw[show x=y by omega,f m (λz a=>b z (by simp[a])) (λz a=>c z (by simp[a])) h.2]
  exact inj l m d hm h
 ·intro h;rw[h]
end Go.Kx
end
namespace Go.Proofs.YtbijlklgbfminaaGreat
section
namespace Rw
open Go Go.Kx KM Cr
abbrev u8:Int->Value:=Value.int .u8
abbrev i64:Int->Value:=Value.int .i64
theorem MI (x:Int):cI (u8 x)=true:=rfl
theorem bH {k:Nat} (h:k< 2 ^ 60):IntKind.wrap .i64 ((k:Int)+1)=((k+1:Nat):Int):=by rw[bA (by omega) (by omega)];push_cast;rfl
abbrev cells (s:Sl) (k:Nat):List Value:=[Sl.v s,i64 (k:Int)]
section
variable {H B:PH} {L:List Ob} {a:Addr} {s p:Sl} {b l:List Int} {k w:Nat}
theorem jb {Q:Sl->PH->Prop} (h:aA H (aC B::L)) (e:Bytes H p b) (f:b.length<=2 ^ 30) (d:∀r H',aA H' (aC B::aW u8 r b::L)->Q r H'):bc p H Q:=
 zF (enc:=u8) e MI rfl (by omega) λr H' c=>d r H' (h.made c)
theorem tS {Q:Int->PH->Prop} (h:aA H (aC B::aG a (cells s k)::aW u8 s b::L)) (hk:k<=b.length) (d:b.length<=2 ^ 30) (c:Q ((b.length-k:Nat):Int) H):jR (some a) H Q:=by
 refine aE rfl (aD (ay (x:=s) h rfl (aD (ay (x:=(k:Int)) h rfl ?_))))
 rw[(h.list (enc:=u8) 2 rfl).bF,bo (by omega) (by omega),←Int.ofNat_sub hk];exact c
theorem nT {Q:Option Addr->PH->Prop} (h:aA H (aC B::L)) (c:Bytes H p b) (i:b.length<=65536) (g:∀a s H',aA H' (aC B::aG a (cells s 0)::aW u8 s b::L)->Q (some a) H'):lB p H Q:=by
 refine aE (by rw[c.bF];simp;omega) (jb h c (by omega) λr H1 e=>az e λa d f=>g a r d f)
theorem EZ {x:Int} {Q:Bool->PH->Prop} (d:Q (x==1||(x==2||x==4)) H):wk x H Q:=by
 refine aF (aL (λc=>aF (ae rfl ?_)) (λc=>?_))
 ·rw[c] at d;exact d
 ·rw[c,Bool.false_or] at d
  refine aF (aL (λc2=>?_) (λc2=>?_))
  ·exact(by rw[show(x==2)=true from c2] at d;exact d)
  ·exact(by rw[show(x==2)=false from c2,Bool.false_or] at d;exact d)
theorem cZ {Q:Int->Bool->PH->Prop} (h:aA H (aC B::aG a (cells s k)::aW u8 s b::L)) (hw:w=1∨w=2∨w=4) (hk:k+w<=b.length) (v:b.length<=2 ^ 30) (n:bU b)
 (u:∀H',aA H' (aC B::aG a (cells s (k+w))::aW u8 s b::L)->Q (num b k w) true H'):ba (some a) w H Q:=by
 have r:((w:Int)==1||((w:Int)==2||(w:Int)==4))=true:=by rcases hw with rfl|rfl|rfl<;>rfl
 have C:w<=4:=by omega
 refine aF (aE rfl (EZ ?_))
 rw[r]
 refine aF (aE rfl (tS h (by omega) v ?_))
 refine aE (by simp;omega) ?_
 refine ax w (λi st q=>st=(val ((b.drop k).take i),(i:Int))/\q=H) ⟨rfl,rfl⟩ ?_
 rintro i st H1 again hi ⟨rfl,rfl⟩ j
 refine aL (λc=>?_) (λc=>?_)
 ·have m:i<w:=by simpa using c
  refine aD (ay (x:=s) h rfl (aD (ay (x:=(k:Int)) h rfl ?_)))
  dsimp only
  rw[bo (x:=(k:Int)+i) (by omega) (by omega)]
  refine eJ (h.list (enc:=u8) 2 rfl) (by omega) (by omega) λx g=>⟨by rw[bo (by omega) (by omega)];omega,?_⟩
  rw[show((k:Int)+i).toNat=k+i by omega] at g
  have d:=n.get g
  have hlen:((b.drop k).take i).length=i:=by simp;omega
  have f:=xj ((b.drop k).take i) λy A=>n y (List.mem_of_mem_drop (List.mem_of_mem_take A))
  rw[hlen] at f
  rw[Sj f.1 f.2 d.1 d.2 (by omega)]
  have e:val ((b.drop k).take (i+1))=val ((b.drop k).take i)+x*256 ^ i:=by
   have z:(b.drop k)[i]?=some x:=by rw[List.getElem?_drop];exact g
   rw[List.take_add_one,z]
   have:=GB ((b.drop k).take i) x
   rw[hlen] at this;exact this
  rw[←e]
  exact j m _ _ ⟨by rw[bH (by omega)],rfl⟩
 ·have:i=w:=by simp at c;omega
  subst this
  refine aD (ay (x:=(k:Int)) h rfl (aD ?_))
  rw[bo (by omega) (by omega)]
  exact xi h (by simp) rfl λo t=>u o (by push_cast;exact t)
theorem jE {n:Nat} {Q:Sl->Bool->PH->Prop} (h:aA H (aC B::aG a (cells s k)::aW u8 s b::L)) (hk:k+n<=b.length) (i:b.length<=2 ^ 30)
 (g:∀r H',aA H' (aC B::aG a (cells s (k+n))::aW u8 s b::aW u8 r ((b.drop k).take n)::L)->Q r true H'):fI (some a) n H Q:=by
 refine aF (aE rfl ?_)
 rw[show decide ((n:Int)< 0)=false by simp]
 refine aF (aE rfl (tS h (by omega) i ?_))
 refine aE (by simp;omega) ?_
 refine aD (ay (x:=s) h rfl (aD (ay (x:=(k:Int)) h rfl (aD (ay (x:=(k:Int)) h rfl ?_)))))
 rw[bo (by omega) (by omega)]
 refine ni (h.list (enc:=u8) 2 rfl) (by omega) (by omega) (by omega) λj d _=>?_
 rw[show((k:Int)+n).toNat-(k:Int).toNat=n by omega,Int.toNat_natCast] at d
 refine jb h d (by simp;omega) λr H1 f=>?_
 have c:=f.perm (L':=aC B::aG a (cells s k)::aW u8 s b::aW u8 r ((b.drop k).take n)::L) (.cons _ (.trans (.swap _ _ _) (.cons _ (.swap _ _ _))))
 refine aD (ay (x:=(k:Int)) c rfl (aD ?_))
 rw[bo (by omega) (by omega)]
 exact xi c (by simp) rfl λe c=>g r e (by push_cast;exact c)
theorem rK {n:Nat} {Q:Sl->Bool->PH->Prop} (h:aA H (aC B::aG a (cells s k)::aW u8 s b::L)) (hk:k+n<=b.length) (e:b.length<=2 ^ 30)
 (d:∀r H',aA H' (aC B::aG a (cells s (k+n))::aW u8 s b::L)->Q r true H'):fI (some a) n H Q:=
 jE h hk e λr H' c=>d r H' ((c.perm (L':=aC B::aW u8 r ((b.drop k).take n)::aG a (cells s (k+n))::aW u8 s b::L) (.cons _ (.trans (.cons _ (.swap _ _ _)) (.swap _ _ _)))).ak)
theorem eI {n:Nat} {Q:Option Addr->PH->Prop} (h:aA H (aC B::L)) (g:n<=65536) (f:∀a s H',aA H' (aC B::aG a (cells s 0)::aW u8 s (List.replicate n 0)::L)->Q (some a) H'):qL n H Q:=by
 refine aF (aE (by simp) (aE (by simp;omega) (F9 (enc:=u8) (x:=(0:Int)) h (by omega) (by omega) λr H1 e=>az e λa d c=>f a r d ?_)))
 rw[Int.toNat_natCast] at c;exact c
theorem nU {Q:Sl->PH->Prop} (h:aA H (aC B::aG a (cells s k)::aW u8 s b::L)) (e:b.length<=2 ^ 30) (d:∀r H',aA H' (aC B::aW u8 r b::aG a (cells s k)::aW u8 s b::L)->Q r H'):fy (some a) H Q:=
 aE rfl (aD (ay (x:=s) h rfl (jb h (h.list (enc:=u8) 2 rfl) e λr H' c=>d r H' c)))
theorem MJ (w:Nat) (n:Int) (b:Bs) (q i:Nat) (hi:i<w) (d:q+w<=b.length):(b.take q++(le w n).take i++b.drop (q+i)).set (q+i) (n/ 256 ^ i% 256)=b.take q++(le w n).take (i+1)++b.drop (q+(i+1)):=by
 rw[I1 w n i (by omega),I1 w n (i+1) (by omega),le_succ]
 have c:(b.take q++le i n).length=q+i:=by simp[bI];omega
 rw[List.set_append_right _ _ (by omega),c,Nat.sub_self,List.drop_eq_getElem_cons (show q+i<b.length by omega)]
 simp only[List.set_cons_zero,List.append_assoc,List.singleton_append]
 rw[show q+i+1=q+(i+1) by omega]
theorem w8 (w:Nat) (l:List Int):(l.flatMap (le w)).length=w*l.length:=by
 induction l with
 |nil=>simp
 |cons x l c=>rw[List.flatMap_cons,List.length_append,c,bI,List.length_cons,Nat.mul_succ,Nat.add_comm]
theorem tF {Q:Bool->PH->Prop} (h:aA H (aC B::aG a (cells s k)::aW u8 s b::L)) (O:fv B p l) (hw:w=1∨w=2∨w=4) (N:∀x∈l,0<=x/\x< 256 ^ w) (hk:k+w*l.length<=b.length) (Y:b.length<=2 ^ 30)
 (X:∀H',aA H' (aC B::aG a (cells s (k+w*l.length))::aW u8 s (b.take k++l.flatMap (le w)++b.drop (k+w*l.length))::L)->Q true H'):bt (some a) w p H Q:=by
 have W:((w:Int)==1||((w:Int)==2||(w:Int)==4))=true:=by rcases hw with rfl|rfl|rfl<;>rfl
 have P:1<=w:=by omega
 have Z:w<=4:=by omega
 have S:(256:Int) ^ w<=2 ^ 62:=by rcases hw with rfl|rfl|rfl<;>decide
 have hle:l.length<=w*l.length:=Nat.le_mul_of_pos_left _ P
 have I:fv H p l:=O.ext (h.base)
 refine aF (aE rfl (EZ ?_))
 rw[W]
 refine aF (aE rfl (tS h (by omega) Y ⟨by omega,?_⟩))
 have hdiv:l.length<=(b.length-k)/w:=(Nat.le_div_iff_mul_le P).2 (by rw[Nat.mul_comm];omega)
 have R:(b.length-k)/w<=b.length-k:=Nat.div_le_self _ _
 have T:Int.tdiv ((b.length-k:Nat):Int) (w:Int)=(((b.length-k)/w:Nat):Int):=by
  rw[Int.tdiv_eq_ediv_of_nonneg (by omega)];exact(Int.natCast_ediv _ _).symm
 rw[T,bo (x:=(((b.length-k)/w:Nat):Int)) (by omega) (by omega),I.bF]
 refine aE (by simp;omega) ?_
 refine ax l.length (λi st o=>st=(i:Int)/\o=H) ⟨rfl,rfl⟩ ?_
 rintro i st H1 again hi ⟨rfl,rfl⟩ d
 refine aL (λc=>?_) (λc=>?_)
 ·have g:i<l.length:=by simpa using c
  refine eJ I (by omega) (by omega) λx t=>?_
  have m:=N x (List.mem_of_getElem? t)
  refine aF (aE (by simp;omega) ⟨by rw[bo (by omega) (by omega)];omega,?_⟩)
  rw[OS m.1 m.2 Z]
  refine aE rfl ?_
  rw[bH (by omega)]
  exact d g _ _ ⟨rfl,rfl⟩
 ·clear d
  refine ax l.length (λi st o=>st=(i:Int)/\aA o (aC B::aG a (cells s (k+w*i))::aW u8 s (b.take k++(l.take i).flatMap (le w)++b.drop (k+w*i))::L)) ⟨rfl,by simpa using h⟩ ?_
  rintro i st A D aa ⟨rfl,u⟩ d
  have J:fv A p l:=O.ext (u.base)
  have M:(l.take i).length=i:=by simp;omega
  have hm:w*(i+1)=w*i+w:=Nat.mul_succ _ _
  refine aL (λc=>?_) (λc=>?_)
  ·have g:i<l.length:=by simpa using c
   have ab:w*(i+1)<=w*l.length:=Nat.mul_le_mul_left w g
   refine eJ J (by omega) (by omega) λx t=>?_
   have m:=N x (List.mem_of_getElem? t)
   have K:((l.take i).flatMap (le w)).length=w*i:=by rw[w8,M]
   have f:(b.take k++(l.take i).flatMap (le w)).length=k+w*i:=by rw[List.length_append,K,List.length_take];omega
   refine ax w (λj st o=>st=(j:Int)/\aA o (aC B::aG a (cells s (k+w*i))::aW u8 s (b.take k++(l.take i).flatMap (le w)++(le w x).take j++b.drop (k+w*i+j))::L)) ⟨rfl,by simpa using u⟩ ?_
   rintro j st H3 E hj ⟨rfl,q⟩ z
   refine aL (λc3=>?_) (λc3=>?_)
   ·have y:j<w:=by simpa using c3
    refine aD (ay (x:=s) q rfl (aD (ay (x:=((k+w*i:Nat):Int)) q rfl ⟨by rw[bo (by omega) (by omega)];omega,?_⟩)))
    rw[bo (x:=((k+w*i:Nat):Int)+j) (by omega) (by omega),I0 m.1 (by omega) (by omega)]
    have v:(b.take k++(l.take i).flatMap (le w)++(le w x).take j++b.drop (k+w*i+j)).length=b.length:=by
     rw[List.length_append,List.length_append,f,List.length_take,bI,List.length_drop];omega
    refine tf q 2 rfl (by omega) (by rw[v];omega) rfl λC r=>?_
    rw[bH (by omega)]
    refine z y _ _ ⟨rfl,?_⟩
    have e:=MJ w x (b.take k++(l.take i).flatMap (le w)++b.drop (k+w*i)) (k+w*i) j y (by rw[List.length_append,f,List.length_drop];omega)
    rw[List.take_left' f] at e
    have F:∀n,(b.take k++(l.take i).flatMap (le w)++b.drop (k+w*i)).drop (k+w*i+n)=b.drop (k+w*i+n):=λn=>by
     rw[List.drop_append,List.drop_eq_nil_of_le (by omega),List.nil_append,f,List.drop_drop];congr 1;omega
    rw[F,F] at e
    have G:aA C (aC B::aG a (cells s (k+w*i))::aW u8 s ((b.take k++(l.take i).flatMap (le w)++(le w x).take j++b.drop (k+w*i+j)).set (k+w*i+j) (x/ 256 ^ j% 256))::L):=by
     have V:(((k+w*i:Nat):Int)+j).toNat=k+w*i+j:=by omega
     rw[V] at r;exact r
    rw[e] at G
    exact G
   ·have:j=w:=by simp at c3;omega
    subst this
    refine aD (ay (x:=((k+j*i:Nat):Int)) q rfl (aD ?_))
    rw[bo (by omega) (by omega)]
    refine xi q (by simp) rfl λC r=>?_
    rw[bH (by omega)]
    refine d g _ _ ⟨rfl,?_⟩
    have e1:(l.take (i+1)).flatMap (le j)=(l.take i).flatMap (le j)++le j x:=by rw[Int.toNat_natCast] at t;rw[sx t];simp
    rw[e1,hm,←Nat.add_assoc,←List.append_assoc]
    have e2:(le j x).take j=le j x:=List.take_of_length_le (by simp[bI])
    rw[e2] at r
    have e3:((k+j*i:Nat):Int)+j=((k+j*i+j:Nat):Int):=by push_cast;rfl
    have U:(cells s (k+j*i)).set 1 (Value.int .i64 (((k+j*i:Nat):Int)+j))=cells s (k+j*i+j):=by rw[e3];rfl
    rw[←U];exact r
  ·have:i=l.length:=by simp at c;omega
   subst this
   rw[List.take_length] at u
   exact X A u
theorem Ab {x:Bs} {n:Nat} {Q:Bool->PH->Prop} (h:aA H (aC B::aG a (cells s x.length)::aW u8 s (x++List.replicate n 0)::L)) (f:fv B p l) (hw:w=1∨w=2∨w=4) (e:∀x∈l,0<=x/\x< 256 ^ w) (hk:w*l.length<=n) (g:x.length+n<=2 ^ 30)
 (d:∀H',aA H' (aC B::aG a (cells s (x++l.flatMap (le w)).length)::aW u8 s (x++l.flatMap (le w)++List.replicate (n-w*l.length) 0)::L)->Q true H'):bt (some a) w p H Q:=
 tF h f hw e (by simp;omega) (by simp;omega) λH' c=>d H' (by
  rw[List.take_left,List.drop_append,List.drop_eq_nil_of_le (by omega),List.nil_append,List.drop_replicate,Nat.add_sub_cancel_left] at c
  rw[List.length_append,w8];exact c)
theorem Ea {x y:Bs} {n:Nat} {Q:Bool->PH->Prop} (h:aA H (aC B::aG a (cells s x.length)::aW u8 s (x++List.replicate n 0)::L)) (e:Bytes H p y) (hk:y.length<=n) (o:x.length+n<=2 ^ 30)
 (m:∀H',aA H' (aC B::aG a (cells s (x++y).length)::aW u8 s (x++y++List.replicate (n-y.length) 0)::L)->Q true H'):sU (some a) p H Q:=by
 refine aF (aE rfl (tS h (by simp) (by simp;omega) ?_))
 refine aE (by rw[e.bF];simp;omega) ?_
 refine aD (ay (x:=(x.length:Int)) h rfl (aD (ay (x:=s) h rfl (aD (ay (x:=(x.length:Int)) h rfl ?_)))))
 have f:=(h.list (enc:=u8) 2 rfl).bF
 rw[f]
 refine Ja h 2 rfl (by omega) (by simp only[List.length_append,List.length_replicate];omega) (by omega) λ_=>?_
 rw[Int.toNat_natCast,Int.toNat_natCast]
 refine AK h 2 rfl (by simp) (Nat.le_refl _) e MI λH1 c=>?_
 have e1:min y.length ((x++List.replicate n (0:Int)).length-x.length)=y.length:=by simp;omega
 have e2:(x++List.replicate n (0:Int)).take x.length++(y.take ((x++List.replicate n (0:Int)).length-x.length)++(x++List.replicate n (0:Int)).drop (x.length+min y.length ((x++List.replicate n (0:Int)).length-x.length)))=x++y++List.replicate (n-y.length) 0:=by
  rw[e1,List.take_left,List.take_of_length_le (by simp;omega),List.drop_append,List.drop_eq_nil_of_le (by omega),List.nil_append,List.drop_replicate,Nat.add_sub_cancel_left,List.append_assoc]
 have e3:(x++List.replicate n (0:Int)).length-x.length=n:=by simp
 rw[e3] at c e1 e2
 rw[e3,e1]
 have d:aA H1 (aC B::aG a (cells s x.length)::aW u8 s (x++y++List.replicate (n-y.length) 0)::L):=by
  rw[←e2];rw[List.append_assoc] at c;exact c
 refine cx (d.get 1 rfl) rfl (aD ?_)
 rw[bo (by omega) (by omega)]
 refine xi d (by simp) rfl λg j=>m g ?_
 have i:(cells s x.length).set 1 (Value.int .i64 ((x.length:Int)+(y.length:Nat)))=cells s (x++y).length:=by
  rw[List.length_append];push_cast;rfl
 rw[←i];exact j
theorem GD {ls:List (Sl×List Int)} {Q:Int->PH->Prop} (d:Cr.Rows H p ls) (e:ls.length< 2 ^ 62) (c:Q (oA (cat ls)) H):wO p H Q:=OO d e (by rw[←Sa];exact c)
theorem vM {x z:Bs} {Q:Sl->PH->Prop} (h:aA H (aC B::aW u8 s (x++z)::L)) (D:z.length=4) (M:bU x) (R:x.length<=2 ^ 20) (K:∀H',aA H' (aC B::aW u8 s (closed x)::L)->Q s H'):mF s H Q:=by
 have C:=(h.list (enc:=u8) 1 rfl)
 have el:(s.len:Int)=x.length+4:=by rw[C.bF];simp[D]
 have e1:IntKind.wrap .i64 ((s.len:Int)- 4)=(x.length:Int):=by rw[bo (by omega) (by omega)];omega
 unfold mF
 rw[e1]
 refine ni C (by omega) (by omega) (by simp only[List.length_append];omega) λj f _=>?_
 have e2:((x++z).drop (0:Int).toNat).take ((x.length:Int).toNat-(0:Int).toNat)=x:=by simp
 rw[e2] at f
 refine Qt (l:=[j]) (enc:=Sl.v) h rfl rfl λS E H1 O A o N=>?_
 refine GD (ls:=[(j,x)]) ⟨A.ext o.base,λq y=>by simp at y;subst y;exact⟨f.ext N,M,by simp only;omega⟩⟩ (by simp) ?_
 have J:cat [(j,x)]=x:=by simp[cat]
 rw[J]
 refine ax 4 (λi st G=>st=(i:Int)/\aA G (aC E::aW u8 s (x++(le 4 (oA x)).take i++z.drop i)::L)) ⟨rfl,by simpa using o⟩ ?_
 rintro i st F again hi ⟨rfl,g⟩ t
 have u:=AO x
 refine aL (λc=>?_) (λc=>?_)
 ·have d:i< 4:=by simp at c;omega
  refine⟨by rw[bo (by omega) (by omega)];omega,?_⟩
  rw[bo (x:=(x.length:Int)+i) (by omega) (by omega),I0 u.1 (by omega) (by omega)]
  refine tf g 1 rfl (by omega) (by simp[bI,D];omega) rfl λP r=>?_
  rw[bH (by omega)]
  refine t d _ _ ⟨rfl,?_⟩
  have e:=MJ 4 (oA x) (x++z) x.length i d (by simp;omega)
  rw[List.take_left] at e
  have m:∀n,(x++z).drop (x.length+n)=z.drop n:=λn=>by rw[List.drop_append,List.drop_eq_nil_of_le (by omega),List.nil_append];congr 1;omega
  rw[m,m] at e
  rw[←e]
  have I:((x.length:Int)+i).toNat=x.length+i:=by omega
  rw[I] at r;exact r
 ·have:i=4:=by simp at c;omega
  subst this
  rw[List.take_of_length_le (by simp[bI]),List.drop_eq_nil_of_le (by omega),List.append_nil] at g
  exact K F (g.tJ O)
theorem nV {x y:Bs} {Q:Bool->PH->Prop} (e:Bytes H s x) (d:Bytes H p y) (f:bU x) (g:bU y) (c:Q (x==y) H):gx s p H Q:=by
 refine⟨_,⟨x,e.cells,rfl⟩,_,⟨y,d.cells,rfl⟩,?_⟩
 have:((strOf x).toList==(strOf y).toList)=(x==y):=by
  rw[Bool.eq_iff_iff,beq_iff_eq,beq_iff_eq];exact GC f g
 show Q ((strOf x).toList==(strOf y).toList) H
 rw[this];exact c
end
end Rw
end
section
namespace Ge
open Go Go.Kx KM
abbrev tw (c:bC):List Value:=[.int .i64 c.1,.int .i64 c.2.1,.int .i64 c.2.2]
def Gm (H:PH) (p:Option Addr) (c:bC):Prop:=∃a,p=some a/\aZ H a (tw c)
theorem Gm.ext {A B:PH} {p:Option Addr} {c:bC} (h:Gm A p c) (x:Ext A B):Gm B p c:=let⟨a,b,d⟩:=h;⟨a,b,d.ext x⟩
theorem bD {H:PH} {a lo hi:Int} {Q:Bool->PH->Prop} (b:Q (decide (lo<=a)&&decide (a<=hi)) H):eK a lo hi H Q:=
 aF (aL (λh=>by rw[h,Bool.true_and] at b;exact b) (λh=>by rw[h,Bool.false_and] at b;exact b))
theorem Qv {H:PH} {c:bC} {Q:Option Addr->Int->PH->Prop} (m:bg c) (l:∀p H',Ext H H'->Gm H' p c->Q p 0 H'):pU c H Q:=by
 obtain⟨e,f,g,i,j,k⟩:=m
 have w:∀{x lo hi:Int},lo<=x->x<=hi->(decide (lo<=x)&&decide (x<=hi))=true:=λh d=>by simp[h,d]
 refine jf λa1 H1 o a _=>aa (x:=c.1) a rfl (bD ?_)
 rw[w e f]
 refine aF (aE rfl (aa (x:=c.2.1) a rfl (bD ?_)))
 rw[w g i]
 refine aF (aE rfl (aa (x:=c.2.2) a rfl (bD ?_)))
 rw[w j k]
 refine aE rfl (fF (x:=c) a rfl (jf λb r q n _=>l _ _ (o.trans q) ⟨b,rfl,n⟩))
theorem Sk {H:PH} {c:bC} {Q:Option Addr->Int->PH->Prop} (e:¬bg c) (a:∀H',Ext H H'->Q none 1 H'):pU c H Q:=by
 refine jf λa1 H1 d b _=>aa (x:=c.1) b rfl (bD ?_)
 refine aF (aL (λ_=>aF (ae rfl (ae rfl (a _ d)))) (λe1=>aa (x:=c.2.1) b rfl (bD ?_)))
 refine aF (aL (λ_=>ae rfl (a _ d)) (λe2=>aa (x:=c.2.2) b rfl (bD ?_)))
 refine aL (λ_=>a _ d) (λe3=>absurd ?_ e)
 simp at e1 e2 e3
 simp only[bg];omega
theorem gE {c:bC} (h:bg c):1<=cR c/\cR c<=5:=by obtain⟨a,b,d,e,f,g⟩:=h;simp only[cR];omega
theorem kT {c:bC} (h:bg c):2<=cD c/\cD c<=4:=by obtain⟨a,b,d,e,f,g⟩:=h;simp only[cD];omega
theorem m8 {c:bC} (h:bg c):10<=base c/\base c<=30:=by have:=gE h;have:=kT h;simp only[base];omega
theorem GF {a b A B:Int} (c:0<=a) (d:a<=A) (e:0<=b) (f:b<=B):0<=a*b/\a*b<=A*B:=
 ⟨Int.mul_nonneg c e,Int.mul_le_mul d f e (Int.le_trans c d)⟩
theorem BJ {c:bC} (h:bg c):0<=c.2.1*c.2.2/\c.2.1*c.2.2<=32*64:=by obtain⟨d,e,f,a,g,b⟩:=h;exact GF (by omega) a (by omega) b
theorem Qw {c:bC} (h:bg c):11<=half c/\half c<=31:=by obtain⟨a,b,d,e,f,g⟩:=h;simp only[half];omega
theorem I2 {H:PH} {n a:Int} {Q:Int->PH->Prop} (d:0<=n) (e:n<=2 ^ 40) (f:1<=a) (g:a<=2 ^ 40) (b:Q ((n+a- 1)/a) H):yW n a H Q:=by
 refine⟨by omega,?_⟩
 rw[bA (x:=n+a) (by omega) (by omega),bA (x:=n+a- 1) (by omega) (by omega),Int.tdiv_eq_ediv_of_nonneg (by omega)]
 have a1:0<=(n+a- 1)/a:=Int.ediv_nonneg (by omega) (by omega)
 have c:(n+a- 1)/a<=n+a- 1:=Int.ediv_le_self _ (by omega)
 rw[bA (by omega) (by omega)];exact b
theorem lH {H:PH} {p:Option Addr} {c:bC} {Q:bC->PH->Prop} (f:Gm H p c) (e:∀H',Ext H H'->Q c H'):cU p H Q:=by
 obtain⟨a,rfl,g⟩:=f
 refine jf λa1 H1 b h f1=>aE rfl (aD (No (x:=c) (g.ext b) rfl ?_))
 exact sO h rfl rfl λd i k3=>fF (x:=c) i rfl (e d (b.BC k3 f1))
theorem fB {H:PH} {p:Option Addr} {c:bC} {Q:Int->PH->Prop} (d:Gm H p c) (a:bg c) (b:∀H',Ext H H'->Q (cR c) H'):dg p H Q:=by
 refine lH d λH1 e=>I2 (by have:=a.1;omega) (by have:=a.2.1;omega) (by decide) (by decide) ?_
 have:(c.1+15- 1)/ 15=cR c:=by simp only[cR];omega
 rw[this];exact b H1 e
theorem tT {H:PH} {p:Option Addr} {c:bC} {Q:Int->PH->Prop} (e:Gm H p c) (d:bg c) (b:Q (cD c) H):dq p H Q:=by
 obtain⟨a,rfl,f⟩:=e
 obtain⟨g,h,i,j,k,l⟩:=d
 refine aE rfl (aD (my (x:=c.2.1) f rfl ?_))
 rw[bA (x:=5*c.2.1) (by omega) (by omega),bA (x:=43+5*c.2.1) (by omega) (by omega)]
 refine I2 (by omega) (by omega) (by decide) (by decide) ?_
 have:(43+5*c.2.1+64- 1)/ 64=cD c:=by simp only[cD];omega
 rw[this];exact b
theorem ny {H:PH} {p:Option Addr} {c:bC} {s:Int} {Q:Bool->PH->Prop} (e:Gm H p c) (d:bg c) (b:Q (decide (0<=s)&&decide (s<=c.2.1- 1)) H):lC p s H Q:=by
 obtain⟨a,rfl,f⟩:=e
 obtain⟨g,h,i,j,k,l⟩:=d
 refine aF (ae rfl (aD (my (x:=c.2.1) f rfl ?_)))
 rw[bA (x:=c.2.1- 1) (by omega) (by omega)]
 exact bD b
theorem xk {H:PH} {p:Option Addr} {c:bC} {Q:Int->PH->Prop} (b:Gm H p c) (a:bg c) (d:∀H',Ext H H'->Q (base c) H'):kH p H Q:=by
 refine tT b a (fB b a λH1 e=>?_)
 have f:=gE a
 have g:=kT a
 rw[bA (x:=2*cR c) (by omega) (by omega),bA (x:=cD c+2*cR c) (by omega) (by omega),bA (x:=2*(cD c+2*cR c)) (by omega) (by omega),bA (x:=2+2*(cD c+2*cR c)) (by omega) (by omega)]
 exact d H1 e
theorem OT {H:PH} {p:Option Addr} {c:bC} {s:Int} {Q:Int->PH->Prop} (g:Gm H p c) (b:bg c) (f:∀H',Ext H H'->Q (if 0<=s/\s<c.2.1 then base c+s*c.2.2 else -1) H'):fb p s H Q:=by
 refine ny g b (aL (λe=>?_) (λe=>?_))
 ·have:=f H (.refl _)
  rw[if_neg (by simp at e;omega)] at this;exact this
 ·have h:0<=s/\s<c.2.1:=by simp at e;omega
  obtain⟨a,rfl,d⟩:=g
  refine aD (my (x:=c.2.2) d rfl (xk ⟨a,rfl,d⟩ b λH1 i=>AI (d.ext i) rfl ?_))
  have j:=m8 b
  have k:=GF h.1 (show s<=32 by have:=b.2.2.2.1;omega) (show 0<=c.2.2 by have:=b.2.2.2.2.1;omega) b.2.2.2.2.2
  rw[bA (x:=s*c.2.2) (by omega) (by omega),bA (by omega) (by omega)]
  have:=f H1 i
  rwa[if_pos h] at this
theorem zW {H:PH} {p:Option Addr} {c:bC} {Q:Int->PH->Prop} (g:Gm H p c) (d:bg c) (f:∀H',Ext H H'->Q (all c) H'):iF p H Q:=by
 obtain⟨a,rfl,b⟩:=g
 refine aE rfl (aD (my (x:=c.2.1) b rfl (aD (my (x:=c.2.2) b rfl (xk ⟨a,rfl,b⟩ d λH1 e=>AI (b.ext e) rfl (AI (b.ext e) rfl ?_))))))
 have h:=m8 d
 have i:=BJ d
 rw[bA (x:=c.2.1*c.2.2) (by omega) (by omega),bA (by omega) (by omega)]
 exact f H1 e
theorem MK {H:PH} {p:Option Addr} {c:bC} {Q:Int->PH->Prop} (f:Gm H p c) (b:bg c) (e:Q (half c) H):rq p H Q:=by
 obtain⟨a,rfl,g⟩:=f
 have d:=Qw b
 obtain⟨h,i,j,k,l,m⟩:=b
 refine aE rfl (aD (my (x:=c.2.2) g rfl ?_))
 rw[bA (x:=c.2.2- 2) (by omega) (by omega),Int.tdiv_eq_ediv_of_nonneg (by omega),bA (by simp only[half] at d;omega) (by simp only[half] at d;omega)]
 exact e
theorem C6 {H:PH} {p:Option Addr} {c:bC} {at':Int} {Q:Int->Int->Bool->PH->Prop} (m:Gm H p c) (b:bg c)
 (i:∀H',Ext H H'->if base c<=at'/\at'<all c then Q ((at'-base c)/c.2.2) ((at'-base c)%c.2.2) true H' else Q 0 0 false H'):nG p at' H Q:=by
 obtain⟨a,rfl,d⟩:=m
 have s:=m8 b
 have t:=BJ b
 refine aF (aE rfl (xk ⟨a,rfl,d⟩ b λH1 g=>zW ⟨a,rfl,d.ext g⟩ b λj h=>?_))
 have l:all c=base c+c.2.1*c.2.2:=rfl
 rw[bA (x:=all c- 1) (by omega) (by omega)]
 refine bD (aL (λe=>?_) (λe=>?_))
 ·have:=i j (g.trans h)
  rw[if_neg (by simp at e;omega)] at this;exact this
 ·have n:base c<=at'/\at'<all c:=by simp at e;omega
  refine xk ⟨a,rfl,d.ext (g.trans h)⟩ b λk o=>?_
  have f:=(g.trans h).trans o
  have r:=b.2.2.2.2.1
  refine aD (my (x:=c.2.2) (d.ext f) rfl ⟨by omega,aD (my (x:=c.2.2) (d.ext f) rfl ⟨by omega,?_⟩)⟩)
  have:=i k f
  rw[if_pos n] at this
  rw[bA (x:=at'-base c) (by omega) (by omega),Int.tdiv_eq_ediv_of_nonneg (by omega),Int.tmod_eq_emod_of_nonneg (by omega)]
  have a1:0<=(at'-base c)/c.2.2:=Int.ediv_nonneg (by omega) (by omega)
  have q:(at'-base c)/c.2.2<=at'-base c:=Int.ediv_le_self _ (by omega)
  rw[bA (by omega) (by omega)];exact this
end Ge
end
section
namespace Rw
open Go Go.Kx KM Cr
theorem Ug:∀l:List Int,(∀x∈l,0<=x/\x< 256)->l.flatMap (le 1)=l
 |[],_=>rfl
 |x::l,h=>by
  have:=h x (by simp)
  rw[List.flatMap_cons,Ug l λy d=>h y (by simp[d])]
  simp only[le,List.cons_append,List.nil_append]
  congr 1;omega
theorem zz (l:List Int) (h:∀x∈l,0<=x/\x< 256 ^ 1):l.flatMap (le 1)=l:=Ug l λx d=>by have:=h x d;omega
theorem I3 (n:Nat) (X:Bs) (h:X.length<=n):X++List.replicate (n+4-X.length) 0=pad n X++List.replicate 4 0:=by
 rw[pad,List.append_assoc,List.replicate_append_replicate];congr 2;omega
theorem eZ (w:Nat) (n:Int):bU (le w n):=Ix w n
theorem bu {a b:Bs} (d:bU a) (e:bU b):bU (a++b):=λx f=>(List.mem_append.1 f).elim (d x) (e x)
theorem cK {x:Int} {b:Bs} (h:0<=x/\x<=255) (d:bU b):bU (x::b):=λy f=>(List.mem_cons.1 f).elim (λe=>e▸h) (d y)
theorem mA:bU []:=λx d=>by cases d
theorem yc (n:Nat):bU (List.replicate n 0):=λx d=>by rw[(List.mem_replicate.1 d).2];omega
theorem wP (n:Nat) {X:Bs} (h:bU X):bU (pad n X):=bu h (yc _)
theorem tz {X:Bs} (h:bU X):bU (closed X):=bu h (eZ _ _)
theorem rL {b:Bs} (h:bU b) (n:Nat):bU (b.take n):=λx d=>h x (List.mem_of_mem_take d)
theorem pr {b:Bs} (h:bU b) (n:Nat):bU (b.drop n):=λx d=>h x (List.mem_of_mem_drop d)
theorem OU {l:List Bs} (h:∀b∈l,bU b):bU l.flatten:=λx d=>by
 obtain⟨b,e,d⟩:=List.mem_flatten.1 d
 exact h b e x d
theorem vN {b:Bs} (h:bU b) (k w:Nat):0<=num b k w/\num b k w< 256 ^ w:=by
 have:=xj ((b.drop k).take w) (rL (pr h k) w)
 refine⟨this.1,Int.lt_of_lt_of_le this.2 ?_⟩
 have e:((b.drop k).take w).length<=w:=by simp;omega
 have d:(((256 ^ ((b.drop k).take w).length:Nat)):Int)<=((256 ^ w:Nat):Int):=Int.ofNat_le.2 (Nat.pow_le_pow_right (by decide) e)
 rw[Int.natCast_pow,Int.natCast_pow] at d;exact d
section
variable {H B:PH} {L:List Ob} {a:Addr} {s p:Sl} {n:Nat}
theorem OV {X:Bs} {Q:Sl->PH->Prop} {r:Sl} (h:aA H (aC B::aW u8 r (X++List.replicate (n+4-X.length) 0)::L)) (d:X.length<=n) (f:bU X) (g:n<=65000) (e:∀H',aA H' (aC B::aW u8 r (closed (pad n X))::L)->Q r H'):mF r H Q:=by
 rw[I3 n X d] at h
 exact vM h (by simp) (wP n f) (by rw[pf d];omega) e
theorem xl {X Y:Bs} {m:Nat} {Q:Sl->PH->Prop} {r:Sl} (h:aA H (aC B::aW u8 r (X++List.replicate m 0)::L)) (e:X=Y) (hm:m=n+4-Y.length) (f:Y.length<=n) (g:bU Y) (i:n<=65000) (d:∀H',aA H' (aC B::aW u8 r (closed (pad n Y))::L)->Q r H'):mF r H Q:=by
 subst e;subst hm
 exact OV h f g i d
theorem only {e:PH} {O:Ob} {H':PH} (h:aA H' (aC B::O::L)) (x:Ext e B):aA H' [aC e,O]:=by
 have d:=h.tJ x
 rw[aA.iff] at d ⊢
 simp only[List.mem_cons,List.pairwise_cons,forall_eq_or_imp] at d ⊢
 exact⟨⟨d.1.1,d.1.2.1,λ_ h=>by simp at h⟩,⟨d.2.1.1,λ_ h=>by simp at h⟩,λ_ h=>by simp at h,.nil⟩
end
end Rw
namespace Su
open Go Go.Kx KM Rw Cr
abbrev S5:=Int×Int×Int×Int×Int
abbrev s5 (x:S5):List Value:=[i64 x.1,i64 x.2.1,i64 x.2.2.1,i64 x.2.2.2.1,i64 x.2.2.2.2]
abbrev sup (c:bC) (id aO:Int):S5:=(c.1,c.2.1,c.2.2,id,aO)
section
variable {H B:PH} {L:List Ob} {c:bC} {id aO:Int} {p q:Sl} {b b2:Bs}
theorem fS {Q:Bool->PH->Prop} (m:∀H',Ext H H'->Q (eG c id aO) H'):xU (sup c id aO) H Q:=by
 refine dC (.start H) λa H1 l o=>⟨c,C4 (n:=5) (cs:=s5 (sup c id aO)) ((l.get 1 rfl:aZ H1 a _).Rz rfl) (by omega),?_⟩
 by_cases i:bg c
 ·refine Ge.Qv i λg d j _=>?_
  have f:aA d _:=l.ext j
  refine cq (λk=>ay (x:=id) f rfl k) ?_
  refine cq (λk=>ay (x:=id) f rfl k) ?_
  refine cq (λk=>ay (x:=aO) f rfl k) ?_
  refine cq (λk=>ay (x:=aO) f rfl k) ?_
  have e:eG c id aO=((((((0:Int)==0)&&decide (0<=id))&&decide (id<=2147483647))&&decide (1<=aO))&&decide (aO<=2147483647)):=by
   rw[eG,wB.2 i];simp[bE,Bool.and_assoc]
  rw[←e];exact m d (o.trans j)
 ·refine Ge.Sk i λd j=>?_
  have e:eG c id aO=false:=by
   rw[eG,show Cx c=false from Bool.eq_false_iff.2 λh=>i (wB.1 h)];rfl
  have q:=m d (o.trans j)
  rw[e] at q
  exact aF (aE rfl (aF (aE rfl (aF (aE rfl (aF (aE rfl q)))))))
theorem jF (h:eG c id aO=true):bg c/\(0<=id/\id<=2147483647)/\1<=aO/\aO<=2147483647:=by
 simp only[eG,Bool.and_eq_true,wB,KM.bY] at h
 exact⟨h.1.1,h.1.2,h.2⟩
theorem dt {Q:Sl->Int->PH->Prop} (hm:eG c id aO=true) (E:∀r H',aA H' [aC H,aW u8 r (iS c id aO)]->Q r 0 H'):mG (sup c id aO) H Q:=by
 obtain⟨ok,⟨i0,i1⟩,S,m1⟩:=jF hm
 obtain⟨o1,o2,o3,T,U,V⟩:=ok
 refine dC (.start H) λa H1 g W=>⟨sup c id aO,(g.get 1 rfl:aZ H1 a _).all rfl,fS λK G=>?_⟩
 rw[hm]
 refine aE rfl (Rw.eI (n:=64) (g.ext G) (by decide) λR s t h=>?_)
 have f:aZ t a _:=h.get 3 rfl
 refine my (x:=c.1) f rfl (my (x:=c.2.1) f rfl (my (x:=c.2.2) f rfl ?_))
 refine sX (enc:=i64) (l:=[75,83,c.1,c.2.1,c.2.2]) h rfl rfl λp1 I M m j y=>?_
 have l1:∀x∈[75,83,c.1,c.2.1,c.2.2],0<=x/\x< 256 ^ 1:=by
  intro x d
  simp only[List.mem_cons,List.not_mem_nil,or_false] at d
  rcases d with rfl|rfl|rfl|rfl|rfl<;>omega
 refine Ab (x:=[]) (n:=64) (w:=1) y j (by decide) l1 (by simp) (by simp) λu i=>?_
 have r5:aZ u a _:=i.get 3 rfl
 refine aa (x:=id) r5 rfl (aa (x:=aO) r5 rfl ?_)
 refine sX (enc:=i64) (l:=[id,aO]) i rfl rfl λp2 J N o k z=>?_
 have l2:∀x∈[id,aO],0<=x/\x< 256 ^ 4:=by
  intro x d
  simp only[List.mem_cons,List.not_mem_nil,or_false] at d
  rcases d with rfl|rfl<;>omega
 refine Ab (w:=4) z k (by decide) l2 (by simp) (by simp[bI]) λO A=>?_
 refine nU A (by simp[bI]) λr P C=>?_
 have e:[]++[75,83,c.1,c.2.1,c.2.2].flatMap (le 1)++[id,aO].flatMap (le 4)=75::83::c.1::c.2.1::c.2.2::(le 4 id++le 4 aO):=by
  rw[zz _ l1];simp
 have F:bU (75::83::c.1::c.2.1::c.2.2::(le 4 id++le 4 aO)):=
  cK (by omega) (cK (by omega) (cK (by omega) (cK (by omega) (cK (by omega) (bu (eZ _ _) (eZ _ _))))))
 refine xl (n:=60) C e (by simp[bI]) (by simp[bI]) F (by decide) λv D=>E r v (only D (m.trans o))
theorem uA {Q:Sl->Int->PH->Prop} (hm:eG c id aO=false) (f:∀H',Ext H H'->Q Sl.nil 1 H'):mG (sup c id aO) H Q:=by
 refine dC (.start H) λa H1 e g=>⟨sup c id aO,(e.get 1 rfl:aZ H1 a _).all rfl,fS λd h=>?_⟩
 rw[hm]
 exact ae rfl (f d (g.trans h))
theorem pt:(iS c id aO).length=64:=by rw[iS,gB,pf (by simp[bI])]
theorem wE (h:eG c id aO=true):bU (iS c id aO):=by
 obtain⟨⟨o1,o2,o3,d,e,f⟩,_,_⟩:=jF h
 exact tz (wP _ (cK (by omega) (cK (by omega) (cK (by omega) (cK (by omega) (cK (by omega) (bu (eZ _ _) (eZ _ _))))))))
def wF:Option (bC×Int×Int)->S5
 |none=>(0,0,0,0,0)
 |some x=>sup x.1 x.2.1 x.2.2
def Pw {α:Type}:Option α->Int
 |none=>2
 |some _=>0
theorem gO {Q:S5->Int->PH->Prop} (C:Bytes H p b) (hl:b.length=64) (i:bU b) (A:∀H',Ext H H'->Q (wF (gT b)) (Pw (gT b)) H'):qx p H Q:=by
 refine dC (.start H) λa H1 G S=>nT G (C.ext S) (by omega) λF s W I=>?_
 refine rK (n:=2) I (by omega) (by omega) λ_ X J=>?_
 refine cZ (w:=1) J (by decide) (by omega) (by omega) i λY K=>?_
 refine KG (j:=0) K 3 rfl (by simp) rfl λZ M=>cZ (w:=1) M (by decide) (by omega) (by omega) i λH6 N=>?_
 refine KG (j:=1) N 3 rfl (by simp) rfl λH7 O=>cZ (w:=1) O (by decide) (by omega) (by omega) i λH8 P=>?_
 refine KG (j:=2) P 3 rfl (by simp) rfl λH9 R=>cZ (w:=4) R (by decide) (by omega) (by omega) i λT v=>?_
 refine cB (j:=3) v 3 rfl (by simp) rfl λU y=>cZ (w:=4) y (by decide) (by omega) (by omega) i λV z=>?_
 refine cB (j:=4) z 3 rfl (by simp) rfl λm l=>?_
 have fl:∀d,aA d [aC H,aG F (cells s 13),aW u8 s b,aG a (s5 (sup (num b 2 1,num b 3 1,num b 4 1) (num b 5 4) (num b 9 4)))]->∀(sb:Bool),(sb=true->gT b=none)->(sb=false->gT b=some ((num b 2 1,num b 3 1,num b 4 1),num b 5 4,num b 9 4))->
  aJ sb (aX d a [i64 0,i64 0,i64 0,i64 0,i64 0] λo=>aU s5 o a 5 λg=>Q (g.1,g.2.1,g.2.2.1,g.2.2.2.1,g.2.2.2.2) 2 o)
   (aU s5 d a 5 λE=>aX d a (s5 E) λt=>aU s5 t a 5 λh=>Q (h.1,h.2.1,h.2.2.1,h.2.2.2.1,h.2.2.2.2) 0 t):=by
  intro d f sb e1 e2
  refine aL (λc=>?_) (λc=>?_)
  ·refine eU f 3 rfl rfl rfl λk e=>bj (x:=(0,0,0,0,0)) e 3 rfl rfl rfl ?_
   have:=A k e.base
   rw[e1 c] at this;exact this
  ·refine bj (x:=sup (num b 2 1,num b 3 1,num b 4 1) (num b 5 4) (num b 9 4)) f 3 rfl rfl rfl (eU f 3 rfl rfl rfl λk e=>bj (x:=sup (num b 2 1,num b 3 1,num b 4 1) (num b 5 4) (num b 9 4)) e 3 rfl rfl rfl ?_)
   have:=A k e.base
   rw[e2 c] at this;exact this
 refine bj (x:=sup (num b 2 1,num b 3 1,num b 4 1) (num b 5 4) (num b 9 4)) l 3 rfl rfl rfl ?_
 by_cases hm:eG (num b 2 1,num b 3 1,num b 4 1) (num b 5 4) (num b 9 4)=true
 ·refine dt hm λr d f=>?_
  have e:=(l:aA m (aC H::_)).made f
  refine aF (aE rfl (nV (e.list (enc:=u8) 1 rfl) (C.ext e.base) (wE hm) i ?_))
  refine fl d e.ak _ (λc=>?_) (λc=>?_)
  ·rw[gT];simp only[hm,Bool.true_and];rw[if_neg (by simpa using c)]
  ·rw[gT];simp only[hm,Bool.true_and];rw[if_pos (by simpa using c)]
 ·have u:eG (num b 2 1,num b 3 1,num b 4 1) (num b 5 4) (num b 9 4)=false:=by simpa using hm
  refine uA u λd D=>?_
  refine aF (ae rfl (fl d ((l:aA m (aC H::_)).ext D) true (λ_=>?_) (λc=>by cases c)))
  rw[gT];simp only[u,Bool.false_and];rfl
end
end Su
end
section
namespace Rw
open Go Go.Kx KM Cr
section
variable {H B:PH} {L:List Ob} {a:Addr} {s p:Sl} {n:Nat}
theorem mv {l:List Int} {cs:List Value} {e m w n:Nat} {x:Bs} {K:PH->Prop} (h:aA H (aC B::aG a (cells s x.length)::aW u8 s (x++List.replicate n 0)::L)) (o:cs=l.map i64) (hm:m=l.length) (hw:w=1∨w=2∨w=4) (t:∀x∈l,0<=x/\x< 256 ^ w) (hk:w*l.length<=n) (k:x.length+n<=2 ^ 30)
 (j:∀c H',Ext B c->aA H' (aC c::aG a (cells s (x++l.flatMap (le w)).length)::aW u8 s (x++l.flatMap (le w)++List.replicate (n-w*l.length) 0)::L)->K H'):bV H (row cs e) m λr f=>bt (some a) w r f λ_ d=>K d:=
 sX (enc:=i64) (l:=l) h o hm λr c f v u g=>Ab g u hw t hk k λd i=>j c d v i
theorem zY {τ:Type} {en:τ->List Value} {n:Nat} {a:Addr} {x z:τ} {sb:Bool} {cs j:List Value} {Q:τ->Int->PH->Prop} (h:aA H L) (i:Nat) (hi:L[i]?=some (aG a cs)) (g:cs=en x) (o:j=en z) (hlen:∀y,(en y).length=n) (e:∀y,(en y).all cI=true)
 (k:sb=true->∀H',aA H' (L.set i (aG a (en z)))->Q z 2 H') (m:sb=false->∀H',aA H' (L.set i (aG a (en x)))->Q x 0 H'):
 aJ sb (aX H a j λH1=>aU en H1 a n λy=>Q y 2 H1) (aU en H a n λy=>aX H a (en y) λH1=>aU en H1 a n λy=>Q y 0 H1):=by
 subst g;subst o
 have f:=(List.getElem?_eq_some_iff.1 hi).1
 refine aL (λc=>?_) (λc=>?_)
 ·refine eU h i hi (by rw[hlen,hlen]) (e _) λH1 d=>bj (x:=z) d i (List.getElem?_set_self f) rfl (hlen _).symm (k c H1 d)
 ·refine bj (x:=x) h i hi rfl (hlen _).symm (eU h i hi (by rw[hlen]) (e _) λH1 d=>bj (x:=x) d i (List.getElem?_set_self f) rfl (hlen _).symm (m c H1 d))
end
end Rw
namespace Su
open Go Go.Kx KM Rw Cr
section
variable {H B:PH} {L:List Ob} {p q:Sl} {b b2:Bs}
def vO:Option ((bC×Int×Int)×Int)->S5×Int×Int
 |none=>((0,0,0,0,0),0,2)
 |some (x,k)=>(sup x.1 x.2.1 x.2.2,k,0)
theorem choose_spec {Q:S5->Int->Int->PH->Prop} (F:Bytes H p b) (G:Bytes H q b2) (E:b.length=64) (w:b2.length=64) (D:bU b) (v:bU b2)
 (o:∀H',Ext H H'->Q (vO (cY b b2)).1 (vO (cY b b2)).2.1 (vO (cY b b2)).2.2 H'):qy p q H Q:=by
 refine dC (.start H) λa1 H1 z I=>gO (F.ext I) E D λM J=>dC (z.ext J) λr N A S=>eU (vs:=s5 (wF (gT b))) A 1 rfl rfl rfl λO u=>?_
 refine gO (G.ext u.base) w v λP K=>dC (u.ext K) λt R C T=>eU (vs:=s5 (wF (gT b2))) C 1 rfl rfl rfl λi d=>?_
 replace d:aA i [aC H,aG t (s5 (wF (gT b2))),aG r (s5 (wF (gT b))),aG a1 _]:=d
 have k1:∀x:S5,x=wF (gT b)->(vO (cY b b2))=(x,0,0)->aU s5 i r 5 λk=>aX i a1 (s5 k) λe=>aU s5 e a1 5 λm=>Q m 0 0 e:=λx e1 e2=>by
  subst e1
  refine bj d 2 rfl rfl rfl (eU d 3 rfl rfl rfl λj f=>bj (x:=wF (gT b)) f 3 rfl rfl rfl ?_)
  have:=o j f.base
  rw[e2] at this;exact this
 have k2:∀x:S5,x=wF (gT b2)->(vO (cY b b2))=(x,1,0)->aU s5 i t 5 λk=>aX i a1 (s5 k) λe=>aU s5 e a1 5 λm=>Q m 1 0 e:=λx e1 e2=>by
  subst e1
  refine bj d 1 rfl rfl rfl (eU d 3 rfl rfl rfl λj f=>bj (x:=wF (gT b2)) f 3 rfl rfl rfl ?_)
  have:=o j f.base
  rw[e2] at this;exact this
 cases g:gT b with
 |none=>
  rw[g] at k1
  refine aF (aE rfl (aE rfl ?_))
  cases h:gT b2 with
  |none=>
   refine aE rfl (eU (vs:=s5 (0,0,0,0,0)) d 3 rfl rfl rfl λj f=>bj (x:=(0,0,0,0,0)) f 3 rfl rfl rfl ?_)
   have:=o j f.base
   rw[cY,g,h] at this;exact this
  |some y=>exact ae rfl (k2 _ rfl (by rw[cY,g,h];rfl))
 |some x=>
  refine aF (ae rfl (aF ?_))
  cases h:gT b2 with
  |none=>exact ae rfl (ae rfl (k1 _ rfl (by rw[cY,g,h];rfl)))
  |some y=>
   refine aE rfl (aY (x:=x.2.2) d 2 rfl (by rw[g];rfl) (aY (x:=y.2.2) d 1 rfl (by rw[h];rfl) ?_))
   refine aL (λc=>k1 _ rfl ?_) (λc=>ae rfl (k2 _ rfl ?_))
   ·rw[cY,g,h];simp only;rw[if_pos (by simpa using c)];rfl
   ·rw[cY,g,h];simp only;rw[if_neg (by simpa using c)];rfl
end
end Su
namespace Hd
open Go Go.Kx KM Rw Cr
abbrev S4:=Int×Int×Int×Int
abbrev s4 (x:S4):List Value:=[i64 x.1,i64 x.2.1,i64 x.2.2.1,i64 x.2.2.2]
section
variable {H B:PH} {L:List Ob} {x:S4} {p q:Sl} {b b2:Bs}
theorem bD {x lo hi:Int} {Q:Bool->PH->Prop} (c:Q (bE x lo hi) H):ns x lo hi H Q:=cq (b:=decide (x<=hi)) (λk=>k) c
abbrev may (x:S4):Bool:=BG x.1 x.2.1 x.2.2.1 x.2.2.2
abbrev Dx (x:S4):Bs:=xc x.1 x.2.1 x.2.2.1 x.2.2.2
theorem fS {Q:Bool->PH->Prop} (d:∀H',Ext H H'->Q (may x) H'):zJ x H Q:=by
 refine dC (.start H) λa H1 c e=>ay (x:=x.1) c rfl (bD ?_)
 refine cq (b:=bE x.2.1 1 2147483647) (λk=>ay (x:=x.2.1) c rfl (bD k)) ?_
 refine cq (b:=bE x.2.2.1 1 2147483647) (λk=>ay (x:=x.2.2.1) c rfl (bD k)) ?_
 refine cq (b:=bE x.2.2.2 0 4294967295) (λk=>ay (x:=x.2.2.2) c rfl (bD k)) ?_
 exact d H1 e
theorem jF (h:may x=true):(0<=x.1/\x.1<=31)/\(1<=x.2.1/\x.2.1<=2147483647)/\(1<=x.2.2.1/\x.2.2.1<=2147483647)/\0<=x.2.2.2/\x.2.2.2<=4294967295:=by
 simp only[may,BG,Bool.and_eq_true,KM.bY] at h
 exact⟨h.1.1.1,h.1.1.2,h.1.2,h.2⟩
theorem dt {Q:Sl->Int->PH->Prop} (hm:may x=true) (w:∀r H',aA H' [aC H,aW u8 r (Dx x)]->Q r 0 H'):qM x H Q:=by
 obtain⟨⟨a1,o⟩,⟨I,b2⟩,⟨c1,c2⟩,d1,d2⟩:=jF hm
 refine dC (.start H) λa H1 d J=>⟨x,(d.get 1 rfl:aZ H1 a _).all rfl,fS λE A=>?_⟩
 rw[hm]
 refine aE rfl (Rw.eI (n:=64) (d.ext A) (by decide) λo s j f=>?_)
 have l1:∀y∈[75,72,x.1],0<=y/\y< 256 ^ 1:=by
  intro y c
  simp only[List.mem_cons,List.not_mem_nil,or_false] at c
  rcases c with rfl|rfl|rfl<;>omega
 refine aa (x:=x.1) (f.get 3 rfl:aZ j a _) rfl (mv (x:=[]) (n:=64) (l:=[75,72,x.1]) f rfl rfl (by decide) l1 (by simp) (by simp) λC k h g=>?_)
 have r5:aZ k a _:=g.get 3 rfl
 have l2:∀y∈[x.2.1,x.2.2.1,x.2.2.2],0<=y/\y< 256 ^ 4:=by
  intro y c
  simp only[List.mem_cons,List.not_mem_nil,or_false] at c
  rcases c with rfl|rfl|rfl<;>omega
 refine aa (x:=x.2.1) r5 rfl (aa (x:=x.2.2.1) r5 rfl (aa (x:=x.2.2.2) r5 rfl ?_))
 refine mv (l:=[x.2.1,x.2.2.1,x.2.2.2]) g rfl rfl (by decide) l2 (by simp) (by simp[bI]) λD F i t=>?_
 refine nU t (by simp[bI]) λr G u=>?_
 have e:[]++[75,72,x.1].flatMap (le 1)++[x.2.1,x.2.2.1,x.2.2.2].flatMap (le 4)=75::72::x.1::(le 4 x.2.1++le 4 x.2.2.1++le 4 x.2.2.2):=by
  rw[zz _ l1];simp
 have z:bU (75::72::x.1::(le 4 x.2.1++le 4 x.2.2.1++le 4 x.2.2.2)):=
  cK (by omega) (cK (by omega) (cK (by omega) (bu (bu (eZ _ _) (eZ _ _)) (eZ _ _))))
 refine xl (n:=60) u e (by simp[bI]) (by simp[bI]) z (by decide) λm v=>w r m (only v (h.trans i))
theorem uA {Q:Sl->Int->PH->Prop} (hm:may x=false) (e:∀H',Ext H H'->Q Sl.nil 1 H'):qM x H Q:=by
 refine dC (.start H) λa H1 d f=>⟨x,(d.get 1 rfl:aZ H1 a _).all rfl,fS λc g=>?_⟩
 rw[hm]
 exact ae rfl (e c (f.trans g))
theorem len:(Dx x).length=64:=by rw[Dx,xc,gB,pf (by simp[bI])]
theorem tU (h:may x=true):bU (Dx x):=by
 obtain⟨⟨a1,c⟩,_⟩:=jF h
 exact tz (wP _ (cK (by omega) (cK (by omega) (cK (by omega) (bu (bu (eZ _ _) (eZ _ _)) (eZ _ _))))))
def of:Option S4->S4
 |none=>(0,0,0,0)
 |some x=>x
abbrev raw (b:Bs):S4:=(num b 2 1,num b 3 4,num b 7 4,num b 11 4)
theorem ML {b:Bs} (h:(may (raw b)&&Dx (raw b)==b)=false):headD b=none:=by rw[headD,if_neg (by simpa using h)]
theorem Qx {b:Bs} (h:(may (raw b)&&Dx (raw b)==b)=true):headD b=some (raw b):=by rw[headD,if_pos h]
theorem gO {Q:S4->Int->PH->Prop} (u:Bytes H p b) (X:b.length=64) (g:bU b) (k:∀H',Ext H H'->Q (of (headD b)) (Su.Pw (headD b)) H'):sT p H Q:=by
 refine dC (.start H) λa H1 y K=>nT y (u.ext K) (by omega) λW s N A=>?_
 refine rK (n:=2) A (by omega) (by omega) λ_ O C=>cZ (w:=1) C (by decide) (by omega) (by omega) g λP D=>?_
 refine cB (j:=0) D 3 rfl (by simp) rfl λR E=>cZ (w:=4) E (by decide) (by omega) (by omega) g λS F=>?_
 refine cB (j:=1) F 3 rfl (by simp) rfl λT G=>cZ (w:=4) G (by decide) (by omega) (by omega) g λU I=>?_
 refine cB (j:=2) I 3 rfl (by simp) rfl λV J=>cZ (w:=4) J (by decide) (by omega) (by omega) g λM o=>?_
 refine cB (j:=3) o 3 rfl (by simp) rfl λh e=>bj (x:=raw b) e 3 rfl rfl rfl ?_
 by_cases hm:may (raw b)=true
 ·refine dt hm λr m t=>?_
  have f:=(e:aA h (aC H::_)).made t
  refine aF (aE rfl (nV (f.list (enc:=u8) 1 rfl) (u.ext f.base) (tU hm) g (zY (x:=raw b) (z:=(0,0,0,0)) (Q:=Q) f.ak 3 rfl rfl rfl (λ_=>rfl) (λ_=>rfl) (λc H' d=>?_) (λc H' d=>?_))))
  ·have:=k H' d.base
   rw[ML (by rw[hm,Bool.true_and];simpa using c)] at this;exact this
  ·have:=k H' d.base
   rw[Qx (by rw[hm,Bool.true_and];simpa using c)] at this;exact this
 ·have i:may (raw b)=false:=by simpa using hm
  refine uA i λm v=>aF (ae rfl (zY (x:=raw b) (z:=(0,0,0,0)) (Q:=Q) ((e:aA h (aC H::_)).ext v) 3 rfl rfl rfl (λ_=>rfl) (λ_=>rfl) (λc H' d=>?_) (λc H' d=>by cases c)))
  have:=k H' d.base
  rw[ML (by rw[i];rfl)] at this;exact this
def fits (b:Bs) (p:Pos):Bool:=match headD b with
 |none=>false
 |some h=>((h.1==p.1&&h.2.2.1==p.2.2.1)&&h.2.2.2==p.2.2.2.1)&&decide (p.2.2.2.2<=h.2.1)
theorem xm {P:Pos} {Q:Bool->PH->Prop} (o:Bytes H p b) (m:b.length=64) (j:bU b) (i:∀H',Ext H H'->Q (fits b P) H'):xX p P H Q:=by
 refine dC (.start H) λa1 H1 f r=>gO (o.ext r) m j λu t=>dC (f.ext t) λe v g w=>eU (vs:=s4 (of (headD b))) g 1 rfl rfl rfl λd c=>?_
 replace c:aA d [aC H,aG e (s4 (of (headD b))),aG a1 [i64 P.1,i64 P.2.1,i64 P.2.2.1,i64 P.2.2.2.1,i64 P.2.2.2.2]]:=c
 refine cq (λk=>aY (x:=(of (headD b)).1) c 1 rfl rfl (aY (x:=P.1) c 2 rfl rfl k)) ?_
 refine cq (λk=>aY (x:=(of (headD b)).2.2.1) c 1 rfl rfl (aY (x:=P.2.2.1) c 2 rfl rfl k)) ?_
 refine cq (λk=>aY (x:=(of (headD b)).2.2.2) c 1 rfl rfl (aY (x:=P.2.2.2.1) c 2 rfl rfl k)) ?_
 refine cq (λk=>aY (x:=(of (headD b)).2.1) c 1 rfl rfl (aY (x:=P.2.2.2.2) c 2 rfl rfl k)) ?_
 have q:=i d c.base
 unfold fits at q
 cases h:headD b with
 |none=>rw[h] at q;exact q
 |some x=>rw[h] at q;exact q
end
end Hd
namespace Pa
open Go Go.Kx KM Rw Cr
theorem Qy (n:Int):le 4 (n% 4294967296)=le 4 n:=by
 simp only[le,List.cons.injEq,and_true]
 omega
theorem mask {n:Int} (c: -1<=n) (d:n<=4095):kE .i64 n 4294967295=n% 4294967296:=by
 by_cases h:0<=n
 ·obtain⟨k,rfl⟩:=Int.eq_ofNat_of_zero_le h
  show IntKind.i64.wrap ((BitVec.ofInt 64 (k:Int)&&&BitVec.ofInt 64 4294967295).toNat:Int)=_
  have e2:(BitVec.ofInt 64 4294967295).toNat=2 ^ 32- 1:=rfl
  rw[BitVec.toNat_and,w7 k (by omega),e2,Nat.and_two_pow_sub_one_eq_mod,bo (by omega) (by omega)];omega
 ·have:n= -1:=by omega
  subst this;rfl
section
variable {H B:PH} {L:List Ob} {l:List Int} {p q:Sl} {b:Bs}
theorem Qz (h:kP l=true):l.length<=15/\∀x∈l,-1<=x/\x<=4095:=by
 simp only[kP,Bool.and_eq_true,decide_eq_true_eq,List.all_eq_true,KM.bY] at h;exact h
theorem GG (w:Nat):∀l:List Int,bU (l.flatMap (le w))
 |[]=>mA
 |x::l=>by rw[List.flatMap_cons];exact bu (eZ _ _) (GG w l)
theorem len (h:l.length<=15):(xd l).length=64:=by rw[xd,gB,pf (by rw[w8];omega)]
theorem tU:bU (xd l):=tz (wP _ (GG 4 l))
theorem dt {Q:Sl->Int->PH->Prop} (A:fv H p l) (X:l.length< 2 ^ 40) (f:kP l=true->∀r H',aA H' [aC H,aW u8 r (xd l)]->Q r 0 H') (M:kP l=false->∀H',Ext H H'->Q Sl.nil 1 H'):nq p H Q:=by
 refine aL (λc=>M ?_ H (.refl H)) (λc=>?_)
 ·rw[A.bF] at c;simp at c;simp[kP];omega
 rw[A.bF] at c
 have F:l.length<=15:=by simp at c;omega
 refine Rw.eI (n:=64) (.start H) (by decide) λE s Y T=>?_
 refine ax l.length (λi st S=>st=(i:Int)/\(∀x∈l.take i,-1<=x/\x<=4095)/\∃u n,Ext H u/\n=64- 4*i/\aA S (aC u::aG E (cells s ((l.take i).flatMap (le 4)).length)::aW u8 s ((l.take i).flatMap (le 4)++List.replicate n 0)::[])) ⟨rfl,by simp,H,64,.refl H,rfl,by simpa using T⟩ ?_
 rintro i st k again hi ⟨rfl,d,u,n,o,rfl,g⟩ I
 have t:fv k p l:=A.ext (o.trans g.base)
 have J:(l.take i).length=i:=by simp;omega
 rw[t.bF]
 refine aL (λc2=>?_) (λc2=>?_)
 ·have K:i<l.length:=by simpa using c2
  refine eJ t (by omega) (by omega) λx m=>?_
  rw[Int.toNat_natCast] at m
  have z:=List.mem_of_getElem? m
  have bad:¬(-1<=x/\x<=4095)->Q Sl.nil 1 k:=λW=>M (Bool.eq_false_iff.2 λh=>W ((Qz h).2 x z)) k (o.trans g.base)
  have KH:(-1<=x/\x<=4095)->bV k (row [i64 (kE .i64 x 4294967295)] 3) 1 λN C=>bt (some E) 4 N C λ_ D=>again (IntKind.wrap .i64 ((i:Int)+1)) D:=λj=>by
   rw[mask j.1 j.2]
   have ln:((l.take i).flatMap (le 4)).length=4*i:=by rw[w8,J]
   refine mv (w:=4) (l:=[x% 4294967296]) g rfl rfl (by decide) (by intro y f;simp at f;subst f;omega) (by simp;omega) (by rw[ln];omega) λP Z O G=>?_
   rw[bH (by omega)]
   have e:(l.take i).flatMap (le 4)++[x% 4294967296].flatMap (le 4)=(l.take (i+1)).flatMap (le 4):=by
    rw[sx m,List.flatMap_append];simp[Qy]
   rw[e] at G
   refine I K _ _ ⟨rfl,λy f=>?_,P,_,o.trans O,by simp;omega,G⟩
   rw[sx m] at f
   rcases List.mem_append.1 f with h|h
   ·exact d y h
   ·simp at h;subst h;exact j
  refine aF (aL (λc3=>ae rfl (bad (by simp at c3;omega))) (λc3=>aL (λv=>bad (by simp at v;omega)) (λv=>KH (by simp at c3 v;omega))))
 ·have:i=l.length:=by simp at c2;omega
  subst this
  rw[List.take_length] at g d
  have ln:(l.flatMap (le 4)).length=4*l.length:=w8 4 l
  refine nU g (by rw[List.length_append,ln,List.length_replicate];omega) λr H8 U=>?_
  refine xl (n:=60) U rfl (by rw[ln]) (by rw[ln];omega) (GG 4 l) (by decide) λR V=>f ?_ r R (only V o)
  simp only[kP,Bool.and_eq_true,decide_eq_true_eq,List.all_eq_true,KM.bY];exact⟨F,d⟩
theorem C7 (b:Bs):∀n k,oO b k (n+1)=oO b k n++[Cy (num b (k+4*n) 4)]
 | 0,k=>by simp[oO]
 |n+1,k=>by
  rw[oO,C7 b n (k+4),oO]
  simp only[List.cons_append,List.cons.injEq,true_and,List.append_cancel_left_eq,and_true]
  rw[show k+4+4*n=k+4*(n+1) by omega]
theorem vP (b:Bs):∀n k,(oO b k n).length=n
 | 0,k=>rfl
 |n+1,k=>by simp[oO,vP b n]
theorem gO {Q:Sl->Int->PH->Prop} (A:Bytes H p b) (V:b.length=64) (u:bU b) (R:∀l,ru b=some l->∀r H',aA H' [aC H,aW i64 r l]->Q r 0 H') (z:ru b=none->∀H',Ext H H'->Q Sl.nil 2 H'):ug p H Q:=by
 refine nT (.start H) A (by omega) λa s H1 K=>?_
 refine ax 15 (λi st I=>st.2=(i:Int)/\∃g,Ext H g/\aA I [aC g,aG a (cells s (4*i)),aW u8 s b,aW i64 st.1 (oO b 0 i)]) ⟨rfl,H,.refl H,K.perm (L':=[aC H,aG a (cells s 0),aW u8 s b]) (.refl _)|>.AJ⟩ ?_
 rintro i ⟨st,_⟩ G again hi ⟨e,g,j,h⟩ t
 simp only at e h;subst e
 refine aL (λc=>?_) (λc=>?_)
 ·have y:i< 15:=by simp at c;omega
  refine cZ (w:=4) h (by decide) (by omega) (by omega) u λd k=>?_
  have fin:∀v,v=Cy (num b (4*i) 4)->bV d (row [i64 v] 3) 1 λC m=>fG m 3 1 8 [i64 0] st C λD o=>again (D,IntKind.wrap .i64 ((i:Int)+1)) o:=λv O=>by
   refine sX (enc:=i64) (l:=[v]) k rfl rfl λr F T E N f=>?_
   refine qY f 3 rfl (N.ext f.base) (λ_=>rfl) rfl (by rw[vP];simp;omega) λW U M=>?_
   rw[bH (by omega)]
   refine t y _ _ ⟨rfl,F,j.trans E,?_⟩
   have e1:oO b 0 (i+1)=oO b 0 i++[v]:=by rw[C7,Nat.zero_add,←O]
   rw[e1,show 4*(i+1)=4*i+4 by omega];exact M
  refine aF (aL (λc3=>fin _ ?_) (λc3=>fin _ ?_))
  ·have:num b (4*i) 4=4294967295:=by simpa using c3
   rw[Cy,if_pos this]
  ·have:¬num b (4*i) 4=4294967295:=by simpa using c3
   rw[Cy,if_neg this]
 ·have:i=15:=by simp at c;omega
  subst this
  have P:=(h.list (enc:=i64) 3 rfl)
  have oT:∀H',aA H' [aC g,aG a (cells s (4*15)),aW u8 s b,aW i64 st (oO b 0 15)]->aA H' [aC H,aW i64 st (oO b 0 15)]:=λH' J=>
   (J.tJ j).pick [0,3] (by decide) rfl (by simp)
  refine dt P (by rw[vP];decide) (λhm r d k=>?_) (λhm d S=>?_)
  ·have f:=(h:aA G (aC g::_)).made k
   refine aF (aE rfl (nV (f.list (enc:=u8) 1 rfl) (A.ext (j.trans f.base)) tU u ?_))
   refine aL (λc2=>z ?_ d (j.trans f.base)) (λc2=>R _ ?_ st d (oT d f.ak))
   ·rw[ru,if_neg (by rw[hm,Bool.true_and];simpa using c2)]
   ·rw[ru,if_pos (by rw[hm,Bool.true_and];simpa using c2)]
  ·exact aF (ae rfl (ae rfl (z (by rw[ru,if_neg (by rw[hm];simp)]) d (j.trans (h.base.trans S)))))
end
end Pa
end
section
namespace It
open Go Go.Kx KM Rw Cr
abbrev eB (x:iY):List Value:=[i64 x.1,i64 x.2.1,i64 x.2.2.1,i64 x.2.2.2]
theorem bF (x:iY):(eB x).length=4:=rfl
theorem Px (x:iY):(eB x).all cI=true:=rfl
theorem fk {α:Type} {l:List α} {k:Nat} {x:α} (h:l[k]?=some x):l.take (k+1)=l.take k++[x]:=by rw[List.take_add_one,h];rfl
section
variable {H B:PH} {L:List Ob} {x:iY} {p q:Sl} {l:List iY} {b:Bs}
theorem bD {x lo hi:Int} {Q:Bool->PH->Prop} (a:Q (bE x lo hi) H):ll x lo hi H Q:=cq (b:=decide (x<=hi)) (λk=>k) a
theorem fS {Q:Bool->PH->Prop} (n:∀H',Ext H H'->Q (cL x) H'):tD x H Q:=by
 obtain⟨d,bl,g,h⟩:=x
 refine dC (.start H) λa H1 f s=>ay (x:=bl) f rfl (bD (ay (x:=d) f rfl (Si ?_)))
 have fin:∀e,cL (d,bl,g,h)=e->Q e H1:=λe he=>he▸n H1 s
 refine aL (λc=>?_) (λc=>?_)
 ·have hk:d=1∨d=5:=by simpa using c
  exact cq (λk=>ay (x:=g) f rfl k) (cq (λk=>ay (x:=h) f rfl k) (fin _ (by simp only[cL];rw[if_pos hk])))
 ·have n1:¬(d=1∨d=5):=by simpa using c
  refine Si (aL (λc2=>?_) (λc2=>?_))
  ·have hk:d=2∨d=6:=by simpa using c2
   refine Pu (b:=bE g 1 (64-bl)) (λo k=>ay (x:=g) f rfl (ay (x:=bl) f rfl ?_)) (cq (λk=>ay (x:=h) f rfl k) (fin _ (by simp only[cL];rw[if_neg n1,if_pos hk])))
   have:=KM.bY.1 o
   rw[bo (by omega) (by omega)]
   exact bD k
  ·have n2:¬(d=2∨d=6):=by simpa using c2
   refine aL (λc3=>?_) (λc3=>aL (λi=>?_) (λi=>aL (λj=>?_) (λj=>?_)))
   ·have hk:d=3:=by simpa using c3
    exact ay (x:=bl) f rfl (cq (λk=>ay (x:=g) f rfl k) (cq (λk=>ay (x:=h) f rfl (bD k)) (fin _ (by simp only[cL];rw[if_neg n1,if_neg n2,if_pos hk]))))
   ·have n3:¬d=3:=by simpa using c3
    have hk:d=4:=by simpa using i
    exact cq (λk=>ay (x:=g) f rfl k) (cq (λk=>ay (x:=h) f rfl (bD k)) (fin _ (by simp only[cL];rw[if_neg n1,if_neg n2,if_neg n3,if_pos hk])))
   ·have n3:¬d=3:=by simpa using c3
    have m:¬d=4:=by simpa using i
    have hk:d=7:=by simpa using j
    exact ay (x:=bl) f rfl (cq (λk=>ay (x:=g) f rfl k) (cq (λk=>ay (x:=h) f rfl (bD k)) (fin _ (by simp only[cL];rw[if_neg n1,if_neg n2,if_neg n3,if_neg m,if_pos hk]))))
   ·have n3:¬d=3:=by simpa using c3
    have m:¬d=4:=by simpa using i
    have r:¬d=7:=by simpa using j
    exact fin _ (by simp only[cL];rw[if_neg n1,if_neg n2,if_neg n3,if_neg m,if_neg r])
theorem yL {Q:Bool->PH->Prop} (g:∀H',Ext H H'->Q (cN x) H'):nt x H Q:=by
 refine dC (.start H) λa H1 d h=>bk (x:=x) d rfl rfl (fS λf e=>?_)
 have c:=d.ext e
 refine cq (b:=(x.1==1||x.1==4)||x.1==5) (λk=>ay (x:=x.1) c rfl ?_) (g f (h.trans e))
 exact vk (b:=x.1==4) (λk=>ay (x:=x.1) c rfl k) (vk (b:=x.1==5) (λk=>ay (x:=x.1) c rfl k) k)
theorem range (h:cL x=true):(1<=x.1/\x.1<=7)/\(0<=x.2.1/\x.2.1<=63)/\(0<=x.2.2.1/\x.2.2.1<=64)/\0<=x.2.2.2/\x.2.2.2<=2147483647:=by
 obtain⟨c,bl,a,d⟩:=x
 change(1<=c/\c<=7)/\(0<=bl/\bl<=63)/\(0<=a/\a<=64)/\0<=d/\d<=2147483647
 simp only[cL] at h
 split at h
 ·simp[bE] at h;omega
 ·split at h
  ·simp[bE] at h;omega
  ·split at h
   ·simp[bE] at h;omega
   ·split at h
    ·simp[bE] at h;omega
    ·split at h
     ·simp[bE] at h;omega
     ·cases h
theorem MM (x:iY):(iW x).length=7:=by simp[iW,bI]
theorem sC:∀l:List iY,(l.flatMap iW).length=7*l.length
 |[]=>rfl
 |x::l=>by rw[List.flatMap_cons,List.length_append,MM,sC l,List.length_cons];omega
theorem MN (h:cL x=true):bU (iW x):=by
 have:=range h
 exact cK (by omega) (cK (by omega) (cK (by omega) (eZ _ _)))
theorem zZ:∀{l:List iY},(∀x∈l,cL x=true)->bU (l.flatMap iW)
 |[],_=>mA
 |x::l,h=>by rw[List.flatMap_cons];exact bu (MN (h x (by simp))) (zZ λy a=>h y (by simp[a]))
theorem dt {Q:Sl->Int->PH->Prop} (t:dT eB 4 H p l) (W:l.length< 2 ^ 40) (d:(l.length<=6/\∀x∈l,cL x=true)->∀r H',aA H' [aC H,aW u8 r (l.flatMap iW)]->Q r 0 H') (K:¬(l.length<=6/\∀x∈l,cL x=true)->∀H',Ext H H'->Q Sl.nil 1 H'):qN p H Q:=by
 refine aL (λc=>K (λh=>?_) H (.refl H)) (λc=>?_)
 ·rw[t.bF] at c;simp at c;omega
 rw[t.bF] at c
 have m:l.length<=6:=by simp at c;omega
 rw[t.bF,bo (by omega) (by omega),show(7*(l.length:Int))=((7*l.length:Nat):Int) from rfl]
 refine Rw.eI (n:=7*l.length) (.start H) (by omega) λE s H3 U=>?_
 refine ax l.length (λi st T=>st=(i:Int)/\(∀x∈l.take i,cL x=true)/\∃j n,Ext H j/\n=7*l.length- 7*i/\aA T (aC j::aG E (cells s ((l.take i).flatMap iW).length)::aW u8 s ((l.take i).flatMap iW++List.replicate n 0)::[])) ⟨rfl,by simp,H,7*l.length,.refl H,rfl,by simpa using U⟩ ?_
 rintro i st R again hi ⟨rfl,f,j,n,v,rfl,k⟩ G
 have M:dT eB 4 R p l:=t.ext (v.trans k.base)
 have I:(l.take i).length=i:=by simp;omega
 have ln:((l.take i).flatMap iW).length=7*i:=by rw[sC,I]
 refine aL (λc2=>?_) (λc2=>?_)
 ·have J:i<l.length:=by simpa using c2
  refine zH M (by omega) (by omega) λa x u X=>⟨x,X,?_⟩
  rw[Int.toNat_natCast] at u
  have A:=List.mem_of_getElem? u
  refine az k λD H5 V=>bf (vs:=eB x) V rfl rfl λH6 m=>bk (x:=x) m rfl rfl (fS λC Y=>?_)
  have g:=m.ext Y
  refine aL (λc3=>K (λh=>?_) C (v.trans g.base)) (λc3=>?_)
  ·have:=h.2 x A;rw[this] at c3;cases c3
  ·have hm:cL x=true:=by simpa using c3
   have hr:=range hm
   refine ay (x:=x.1) g rfl (ay (x:=x.2.1) g rfl (ay (x:=x.2.2.1) g rfl ?_))
   have l1:∀y∈[x.1,x.2.1,x.2.2.1],0<=y/\y< 256 ^ 1:=by
    intro y d
    simp only[List.mem_cons,List.not_mem_nil,or_false] at d
    rcases d with rfl|rfl|rfl<;>omega
   have o:aA C (aC j::aG E _::aW u8 s _::aG D (eB x)::[]):=g.perm (.cons _ ((List.Perm.swap _ _ _).trans (.cons _ (.swap _ _ _))))
   refine mv (w:=1) (l:=[x.1,x.2.1,x.2.2.1]) o rfl rfl (by decide) l1 (by simp;omega) (by rw[ln];omega) λB2 H9 N F=>?_
   refine aY (x:=x.2.2.2) F 3 rfl rfl ?_
   refine mv (w:=4) (l:=[x.2.2.2]) F rfl rfl (by decide) (by intro y d;simp at d;subst d;omega) (by simp;omega) (by rw[List.length_append,ln,w8];simp;omega) λP Z O z=>?_
   rw[bH (by omega)]
   have e:(l.take i).flatMap iW++[x.1,x.2.1,x.2.2.1].flatMap (le 1)++[x.2.2.2].flatMap (le 4)=(l.take (i+1)).flatMap iW:=by
    rw[zz _ l1,fk u,List.flatMap_append];simp[iW]
   rw[e] at z
   refine G J _ _ ⟨rfl,λy d=>?_,P,_,v.trans (N.trans O),by simp;omega,z.pick [0,1,2] (by decide) rfl (by simp)⟩
   rw[fk u] at d
   rcases List.mem_append.1 d with h|h
   ·exact f y h
   ·simp at h;subst h;exact hm
 ·have:i=l.length:=by simp at c2;omega
  subst this
  rw[List.take_length] at k f
  refine nU k (by rw[List.length_append,sC,List.length_replicate];omega) λr S o=>?_
  rw[Nat.sub_self,List.replicate_zero,List.append_nil] at o
  exact d ⟨m,f⟩ r S (only o v)
theorem Bd (b:Bs):∀n k,eO b k (n+1)=eO b k n++[(num b (k+7*n) 1,num b (k+7*n+1) 1,num b (k+7*n+2) 1,num b (k+7*n+3) 4)]
 | 0,k=>by simp[eO]
 |n+1,k=>by
  rw[eO,Bd b n (k+7),eO]
  simp only[List.cons_append,List.cons.injEq,true_and,List.append_cancel_left_eq,and_true]
  rw[show k+7+7*n=k+7*(n+1) by omega]
theorem sD (b:Bs):∀n k,(eO b k n).length=n
 | 0,k=>rfl
 |n+1,k=>by simp[eO,sD b n]
theorem MO:∀(l:Bs),bU l->le l.length (val l)=l
 |[],_=>rfl
 |x::l,h=>by
  have d:=h x (by simp)
  have c:=xj l λy a=>h y (by simp[a])
  rw[List.length_cons,le,val]
  rw[show(x+256*val l)% 256=x by omega,show(x+256*val l)/ 256=val l by omega,MO l λy a=>h y (by simp[a])]
theorem MP {b:Bs} (h:bU b) {k w:Nat} (hk:k+w<=b.length):le w (num b k w)=(b.drop k).take w:=by
 have:=MO ((b.drop k).take w) (rL (pr h k) w)
 have a:((b.drop k).take w).length=w:=by simp;omega
 rw[a] at this;exact this
theorem GH {b:Bs} (h:bU b) {k:Nat} (hk:k+1<=b.length):[num b k 1]=(b.drop k).take 1:=by
 rw[←MP h hk]
 have:=vN h k 1
 simp only[le]
 congr 1;omega
theorem yd (b:Bs) (k m n:Nat):(b.drop k).take (m+n)=(b.drop k).take m++(b.drop (k+m)).take n:=by
 rw[List.take_add,List.drop_drop]
theorem GI {b:Bs} (h:bU b):∀n k,k+7*n<=b.length->(eO b k n).flatMap iW=(b.drop k).take (7*n)
 | 0,k,_=>by simp[eO]
 |n+1,k,hk=>by
  rw[eO,List.flatMap_cons,GI h n (k+7) (by omega)]
  have e:iW (num b k 1,num b (k+1) 1,num b (k+2) 1,num b (k+3) 4)=(b.drop k).take 7:=by
   have e1:=GH h (k:=k) (by omega)
   have e2:=GH h (k:=k+1) (by omega)
   have e3:=GH h (k:=k+2) (by omega)
   have a:=MP h (k:=k+3) (w:=4) (by omega)
   show[num b k 1]++([num b (k+1) 1]++([num b (k+2) 1]++le 4 (num b (k+3) 4)))=_
   rw[e1,e2,e3,a,show(7:Nat)=1+(1+(1+4)) from rfl,yd b k 1,yd b (k+1) 1,yd b (k+1+1) 1]
  rw[e,show 7*(n+1)=7+7*n by omega,yd]
theorem gO {n:Nat} {Q:Sl->Int->PH->Prop} (hp:Bytes H p b) (hl:b.length=7*n) (av:n<=6) (m:bU b) (hy:(∀x∈eO b 0 n,cL x=true)->∀r H',aA H' [aC H,aq eB 4 r (eO b 0 n)]->Q r 0 H') (hn:¬(∀x∈eO b 0 n,cL x=true)->∀H',Ext H H'->Q Sl.nil 2 H'):ui p H Q:=by
 refine nT (.start H) hp (by omega) λa s H1 h1=>?_
 refine ax n (λi st Hk=>∃g,Ext H g/\aA Hk [aC g,aG a (cells s (7*i)),aW u8 s b,aq eB 4 st (eO b 0 i)]) ⟨H,.refl H,h1.perm (L':=[aC H,aG a (cells s 0),aW u8 s b]) (.refl _)|>.zG⟩ ?_
 rintro i st o again hi ⟨g,v,k⟩ Z
 have ab:(st.len:Int)=i:=by rw[(k.get 3 rfl:bT eB 4 o st _).bF,sD]
 have step:i<n->ag o (row [i64 0,i64 0,i64 0,i64 0] 230) λd I=>
  ba (some a) 1 I λah ay J=>aX J (d.add 0) [i64 ah] λK=>
  ba (some a) 1 K λai aB M=>aX M (d.add 1) [i64 ai] λN=>
  ba (some a) 1 N λaj aD O=>aX O (d.add 2) [i64 aj] λP=>
  ba (some a) 4 P λal aH R=>aX R (d.add 3) [i64 al] λy=>
  aU eB y d 4 λf=>bV y (row [i64 f.1,i64 f.2.1,i64 f.2.2.1,i64 f.2.2.2] 230) 1 λac S=>
  fG S 230 4 32 [i64 0,i64 0,i64 0,i64 0] st ac λad T=>again ad T:=λaa=>by
  refine az k λd t Y=>?_
  have F:aA t [aC g,aG a (cells s (7*i)),aW u8 s b,aq eB 4 st (eO b 0 i),aG d _]:=Y.pick [0,2,3,4,1] (by decide) rfl (by simp)
  refine cZ (w:=1) F (by decide) (by omega) (by omega) m λH4 u=>cB (j:=0) u 4 rfl (by simp) rfl λH5 h5=>?_
  refine cZ (w:=1) h5 (by decide) (by omega) (by omega) m λH6 h6=>cB (j:=1) h6 4 rfl (by simp) rfl λH7 h7=>?_
  refine cZ (w:=1) h7 (by decide) (by omega) (by omega) m λH8 h8=>cB (j:=2) h8 4 rfl (by simp) rfl λH9 h9=>?_
  refine cZ (w:=4) h9 (by decide) (by omega) (by omega) m λap W=>cB (j:=3) W 4 rfl (by simp) rfl λar C=>?_
  refine bj (x:=((num b (7*i) 1,num b (7*i+1) 1,num b (7*i+1+1) 1,num b (7*i+1+1+1) 4):iY)) C 4 rfl rfl rfl ?_
  refine IP (enc:=eB) (sz:=4) (x:=((num b (7*i) 1,num b (7*i+1) 1,num b (7*i+1+1) 1,num b (7*i+1+1+1) 4):iY)) C rfl λr G D aw=>?_
  have hr:=(D.get 5 rfl:bT eB 4 G r _)
  refine sQ bF (by decide) D 3 rfl (hr.cells bF (by decide)) hr.len Px rfl (by rw[sD];simp;omega) λr2 au X=>?_
  refine Z aa _ _ ⟨g,v,?_⟩
  have e1:eO b 0 (i+1)=eO b 0 i++[(num b (7*i) 1,num b (7*i+1) 1,num b (7*i+1+1) 1,num b (7*i+1+1+1) 4)]:=by rw[Bd,Nat.zero_add]
  rw[e1,show 7*(i+1)=7*i+1+1+1+4 by omega]
  exact X.pick [0,1,2,3] (by decide) rfl (by simp)
 have done:i=n->qN st o λam an z=>aM (λ(af:Bool) (A:PH)=>aJ af (Q Sl.nil 2 A) (Q st 0 A)) λE=>aJ (an != 0) (E true z) (gx am p z λao U=>E (!ao) U):=λe=>by
  subst e
  have hx:=(k.get 3 rfl:bT eB 4 o st _).jv bF
  have V:=GI m i 0 (by omega)
  rw[List.drop_zero,List.take_of_length_le (by omega)] at V
  refine dt hx (by rw[sD];omega) (λhm r t F=>?_) (λhm t x3=>?_)
  ·have u:=(k:aA o (aC g::_)).made F
   refine aF (aE rfl (nV (u.list (enc:=u8) 1 rfl) (hp.ext (v.trans u.base)) (zZ hm.2) m (aE ?_ ?_)))
   ·rw[V];simp
   ·exact hy hm.2 st t ((u.ak.tJ v).pick [0,3] (by decide) rfl (by simp))
  ·exact aF (ae rfl (ae rfl (hn (λh=>hm ⟨by rw[sD];omega,h⟩) t (v.trans (k.base.trans x3)))))
 refine aF (aL (λc=>?_) (λc=>?_))
 ·refine tS k (by omega) (by omega) (aL (λc2=>step (by simp at c2;omega)) (λc2=>done (by simp at c2;omega)))
 ·have:i=n:=by rw[ab] at c;simp at c;omega
  exact aE rfl (done this)
end
end It
end
end Go.Proofs.YtbijlklgbfminaaGreat
