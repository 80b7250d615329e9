import Derived.Test.YtigjebgjphmkoaaGreatA02
set_option linter.unusedVariables false
set_option linter.unusedSimpArgs false
namespace Go.Proofs.YtigjebgjphmkoaaGreat
open Tryz
section
open Go Go.Kx Go.Proofs Go.Kx.Au Go.Kx.W
def pv (p0:Option Addr) (H:PH) (Q:Sl->PH->Prop):Prop:=
 aj H (row [.pointer p0] 69) λa1 H2=>
 aj H2 (row [.slice none 0 0] 44) λd w=>
 aH .pointer w a1 λx7=>
 pt x7 w λY H9=>
 iX prog Y (λ(q:List Value) (ab:Unit) (r:PH) (o:Nat->Unit->PH->Prop)=>
 ∃(c:Int) (n:qL),q=[VI c,.agg (b9 n).toArray]/\
 aj r (row nW 152) λe s=>
 aV s e (b9 n) λa=>
 mP [0,1]<|
 aH .pointer a a1 λJ=>
 mP [2]<|
 aP J λB=>
 mP [3,4]<|
 aH (.int .i64) a (B.add 4) λK=>
 mP [5,6]<|
 aO (mQ 524287 [15,12,11,8,4,1] (λp (f:Bool)=>p 1=VA a1/\p 2=VA d/\p 3=VI c/\p 4=VA e/\p 31=VB f) (λf b=>
 aL f
 (o 0 () b)
 (aO (mK 1 (λp (g:Addr)=>p 2=VA d/\p 5=VA g) (λg h=>
 aT bS h g 8 λL=>
 ny L h λZ ad i=>
 aH Sl.v i d λM=>
 bZ i (row [Sl.v Z] 50) 1 λG t=>
 fh t 50 1 24 [.slice none 0 0] M G λI u=>
 aV u d ([Sl.v I]) λx=>
 o 0 () x))
 λF=>
 mP [0]<|
 aH .pointer b a1 λN=>
 mP [1]<|
 aP N λC=>
 mP [2,3]<|
 aH (.int .i64) b (C.add 0) λO=>
 mP [4,5]<|
 aT b9 b e 5 λP=>
 mV [] 6 [6,10]<|
 zN O c P b λaa ae y=>
 mP [7,8,9,10]<|
 aj y (row nE 54) λl z=>
 mP [11]<|
 aV z l (bS aa) λA=>
 mP [12]<|
 F l A)))
 λm=>
 aL (decide (c<=K))
 (mP [7,8,9,10,11,12,13,14,15,16,17,18]<|
 m true a)
 (mP [7,8]<|
 aH .pointer a a1 λR=>
 mP [9]<|
 aP R λD=>
 mP [10,11]<|
 aH (.int .i64) a (D.add 4) λS=>
 mP [12]<|
 aH .pointer a a1 λT=>
 mP [13]<|
 aP T λE=>
 mP [14,15]<|
 aH (.int .i64) a (E.add 1) λU=>
 mP [16,17,18]<|
 m (decide ((IntKind.wrap .i64 (S+U))<c)) a)) () H9 λ_ ac j=>
 aH Sl.v j d λV=>
 aV j d ([Sl.v V]) λk=>
 aH Sl.v k d λX=>
 Q X k
def qQ (p0:Option Addr) (p1:Sl) (H:PH) (Q:Int->PH->Prop):Prop:=
 aL (Option.isNone p0)
 (Q 0 H)
 (bw (mL (λe (s2:Int)=>e 0=VP p0/\e 9=Sl.v p1/\e 10=VI (p1.len:Int)/\e 11=VI s2) (λs2 a c=>
 aL (decide (s2<(p1.len:Int)))
 (aO (mB (λe (w:Unit)=>e 0=VP p0/\e 9=Sl.v p1/\e 10=VI (p1.len:Int)/\e 11=VI s2) (λw u=>
 c (IntKind.wrap .i64 (s2+1)) u))
 λn=>
 bX p1 1 s2 λj=>
 aH Sl.v a j λq=>
 aP p0 λk=>
 aH Sl.v a (k.add 0) λr=>
 aL (decide ((r.len:Int)< 64))
 (mP [0,1,2]<|
 aP p0 λb=>
 mP [3,4]<|
 aH Sl.v a (b.add 0) λd=>
 mP [5,6]<|
 cC q a λt f=>
 ay f (b.add 0) (Sl.v d)<|
 mP [7]<|
 bZ f (row [Sl.v t] 50) 1 λo g=>
 ay g (b.add 0) (Sl.v d)<|
 mP [8]<|
 fh g 50 1 24 [.slice none 0 0] d o λp h=>
 mP [9]<|
 aP p0 λl=>
 mP [10,11]<|
 aV h (l.add 0) ([Sl.v p]) λi=>
 n () i)
 (n () a))
 (aP p0 λm=>
 aH Sl.v a (m.add 0) λs=>
 Q (s.len:Int) a)))
 0 H)
def rV (p0:Option Addr) (H:PH) (Q:Int->PH->Prop):Prop:=
 aL (Option.isNone p0)
 (Q 0 H)
 (aP p0 λa=>
 aH Sl.v H (a.add 0) λb=>
 Q (b.len:Int) H)
def yE (p0:Option Addr) (p1:Int) (H:PH) (Q:Bool->PH->Prop):Prop:=
 aO (mK 5 (λe (s2:Bool)=>e 12=VB s2) (λs2 b=>
 Q s2 b))
 λa=>
 aL (decide (0<=p1))
 (rV p0 H λd c=>
 a (decide (p1<d)) c)
 (a false H)
def iY (p0:Sl) (p1:Int) (p2:Int) (H:PH) (Q:Sl->PH->Prop):Prop:=
 U3 p0 1 p1 p2 (p0.len:Int) λf=>
 aL (p1==p2)
 (Q p0 H)
 (mP [0,1,2]<|
 kv p0 1 0 p1 λr5=>
 mP [3,4,5]<|
 kv p0 1 p2 (p0.len:Int) λe=>
 mP [6]<|
 fh H 50 1 24 [.slice none 0 0] r5 e λa d=>
 mP [7]<|
 kv a 1 (a.len:Int) (p0.len:Int) λc=>
 xf d 1 [.slice none 0 0] c λb=>
 Q a b)
def tk (p0:Option Addr) (p1:Int) (H:PH) (Q:Sl->Bool->PH->Prop):Prop:=
 yE p0 p1 H λk H1=>
 aL (!k)
 (Q Sl.nil false H1)
 (aP p0 λh=>
 aH Sl.v H1 (h.add 0) λj=>
 bX j 1 p1 λi=>
 aH Sl.v H1 i λe=>
 aP p0 λc=>
 aH Sl.v H1 (c.add 0) λf=>
 iY f p1 (IntKind.wrap .i64 (p1+1)) H1 λg a=>
 aP p0 λd=>
 aV a (d.add 0) ([Sl.v g]) λb=>
 Q e true b)
def rW (p0:Option Addr) (p1:Int) (H:PH) (Q:Sl->Bool->PH->Prop):Prop:=
 rV p0 H λa H1=>
 uV p1 (if a< 1 then 1 else a) H1 λd b=>
 tk p0 d b λe f c=>
 Q e f c
def tB (p0:Sl) (H:PH) (Q:jk->Int->PH->Prop):Prop:=
 aj H (row nE 54) λa1 R=>
 mj p0 R λa S=>
 ft a 2 S λy7 y8 T=>
 cA a 1 T λD V U=>
 aV U (a1.add 0) ([VI D]) λi=>
 cA a 4 i λE X j=>
 aV j (a1.add 1) ([VI E]) λk=>
 cA a 4 k λF Y l=>
 aV l (a1.add 2) ([VI F]) λm=>
 cA a 1 m λG Z n=>
 aV n (a1.add 3) ([VI G]) λo=>
 cA a 1 o λI aa p=>
 aV p (a1.add 4) ([VI I]) λq=>
 cA a 4 q λJ ab r=>
 aV r (a1.add 5) ([VI J]) λs=>
 cA a 4 s λK ac t=>
 aV t (a1.add 6) ([VI K]) λu=>
 kN a u λL w=>
 ft a (IntKind.wrap .i64 (L- 4)) w λM ad x=>
 aV x (a1.add 7) ([Sl.v M]) λd=>
 aT bS d a1 8 λz=>
 ny z d λN O e=>
 aO (mK 5 (λρ (c:Bool)=>ρ 2=VA a1/\ρ 74=VB c) (λc b=>
 aL c
 (aV b a1 ([VI 0,VI 0,VI 0,VI 0,VI 0,VI 0,VI 0,Sl.v Sl.nil]) λf=>
 aT bS f a1 8 λA=>
 Q A 2 f)
 (aT bS b a1 8 λB=>
 aV b a1 (bS B) λg=>
 aT bS g a1 8 λC=>
 Q C 0 g)))
 λh=>
 aL (O != 0)
 (h true e)
 (jA N p0 e λP y=>
 h (!P) y)
def oA (p0:Option Addr) (H:PH) (Q:Option Addr->PH->Prop):Prop:=
 aL (Option.isNone p0)
 (Q none H)
 (aP p0 λa=>
 aH .pointer H (a.add 0) λb=>
 Q b H)
def iL (p0:Option Addr) (H:PH) (Q:Bool->PH->Prop):Prop:=
 aO (mK 5 (λe (s2:Bool)=>e 10=VB s2) (λs2 b=>
 Q s2 b))
 λa=>
 aL (Option.isNone p0)
 (a true H)
 (aP p0 λc=>
 aH .bool H (c.add 6) λd=>
 a d H)
def jz (p0:Option Addr) (H:PH) (Q:Int->PH->Prop):Prop:=
 aO (mK 7 (λm (s2:Bool)=>m 0=VP p0/\m 13=VB s2) (λs2 b=>
 aL s2
 (Q 3 b)
 (aP p0 λk=>
 aH .pointer b (k.add 0) λl=>
 eI l b λh a=>
 aL (h.1 != 1)
 (Q 7 a)
 (Q 0 a))))
 λf=>
 aL (Option.isNone p0)
 (f true H)
 (aP p0 λe=>
 aH .pointer H (e.add 0) λg=>
 oA g H λi c=>
 iL i c λj d=>
 f j d)
def lB (p0:Option Addr) (p1:jk) (H:PH) (Q:Bool->PH->Prop):Prop:=
 aj H (row (bS p1) 54) λa1 a=>
 aH (.int .i64) a (a1.add 4) λg=>
 mP [0,1]<|
 aH (.int .i64) a (a1.add 0) λn=>
 mP [2,3]<|
 aO (mQ 67108863 [20,14,9,5,1] (λc (m:Bool)=>c 4=VB false/\c 34=VB m) (λm o=>
 mP [26]<|
 Q m o))
 λj=>
 aL (n==8)
 (mP [4,5,6,7,8,9,10,11,12,13,14,15,16,17,18,19,20,21,22,23,24,25]<|
 j true a)
 (mP [4,5]<|
 aH (.int .i64) a (a1.add 0) λr=>
 mP [6,7]<|
 aO (mQ 4095 [9,5,1] (λc (d:Bool)=>c 0=VP p0/\c 3=VA a1/\c 4=VB false/\c 5=VI (if g< 1 then 1 else g)/\c 12=VB (n==8)/\c 20=VB d) (λd b=>
 mP [12]<|
 aO (mQ 33554431 [20,14,9,5,1] (λc (e:Bool)=>c 4=VB false/\c 12=VB (n==8)/\c 33=VB e) (λe p=>
 mP [25]<|
 j e p))
 λl=>
 aL d
 (mP [13,14]<|
 aH (.int .i64) b (a1.add 3) λf=>
 mP [15,16,17,18]<|
 aP p0 λq=>
 mP [19,20]<|
 aH .pointer b (q.add 0) λs=>
 mP [21]<|
 kg s b λu h=>
 ay h (a1.add 3) (VI f)<|
 mP [22]<|
 iq u h λv i=>
 ay i (a1.add 3) (VI f)<|
 mP [23,24]<|
 l (decide (v<(IntKind.wrap .i64 (f+(if g< 1 then 1 else g))))) i)
 (mP [13,14,15,16,17,18,19,20,21,22,23,24]<|
 l false b)))
 λk=>
 aL (r==1)
 (mP [8,9,10,11]<|
 k true a)
 (mP [8,9]<|
 aH (.int .i64) a (a1.add 0) λt=>
 mP [10,11]<|
 k (t==2) a))
def jt (p0:Option Addr) (p1:Int) (p2:Sl) (H:PH) (Q:PH->Prop):Prop:=
 aP p0 λa1=>
 aH .pointer H (a1.add 2) λn=>
 mJ n p1 1 H λp m=>
 bw (mL (λd (b:Int)=>d 0=VP p0/\d 14=Sl.v p2/\d 15=VI (p2.len:Int)/\d 16=VI b) (λb a c=>
 aL (decide (b<(p2.len:Int)))
 (aO (mB (λd (k:Unit)=>d 0=VP p0/\d 14=Sl.v p2/\d 15=VI (p2.len:Int)/\d 16=VI b) (λk g=>
 c (IntKind.wrap .i64 (b+1)) g))
 λe=>
 bX p2 1 b λi=>
 aH (.int .i64) a i λf=>
 aL (decide (0<f))
 (aP p0 λj=>
 aH .pointer a (j.add 2) λl=>
 mJ l f (-1) a λo h=>
 e () h)
 (e () a))
 (Q a)))
 0 m
def ir (p0:Option Addr) (p1:Int) (p2:Bool) (H:PH) (Q:Int->PH->Prop):Prop:=
 aL (Option.isNone p0)
 (Q 3 H)
 (aO (mK 8 (λj (c:Bool)=>j 0=VP p0/\j 2=VB p2/\j 21=VB c) (λc a=>
 aL c
 (Q 7 a)
 (aL (!p2)
 (Q 1 a)
 (aP p0 λi=>
 aH .pointer a (i.add 0) λf=>
 iL f a λh b=>
 aL h
 (Q 3 b)
 (Q 0 b)))))
 λe=>
 aL (p1 != 0)
 (aP p0 λd=>
 aH (.int .i64) H ((d.add 5).add 0) λg=>
 e (g != p1) H)
 (e false H))
def lE (p0:Option Addr) (H:PH) (Q:Int->PH->Prop):Prop:=
 aP p0 λa1=>
 aH (.int .i64) H ((a1.add 3).add 1) λw=>
 aL (decide (0<w))
 (Q 0 H)
 (mP [0,1]<|
 aP p0 λv=>
 mP [2,3,4]<|
 aH (.int .i64) H ((v.add 3).add 0) λx=>
 mP [5,6]<|
 aP p0 λi=>
 mP [7,8,9]<|
 aH (.int .i64) H ((i.add 3).add 4) λo=>
 mP [10,11]<|
 aP p0 λj=>
 mP [12,13,14]<|
 aH (.int .i64) H ((j.add 3).add 2) λp=>
 mP [15,16]<|
 aP p0 λk=>
 mP [17,18,19]<|
 aH (.int .i64) H ((k.add 3).add 3) λq=>
 mP [20,21]<|
 rj (x,o,p,q) H λt f a=>
 mP [22,23,24,25,26]<|
 aL (f != 0)
 (Q f a)
 (mP [0,1]<|
 aP p0 λd=>
 mP [2,3]<|
 aH .pointer a (d.add 0) λe=>
 mP [4,5]<|
 aP p0 λl=>
 mP [6,7]<|
 aH .pointer a (l.add 1) λr=>
 mP [8,9]<|
 aP p0 λm=>
 mP [10,11,12]<|
 aH (.int .i64) a ((m.add 3).add 0) λs=>
 mP [14,13]<|
 gO r s a λu b=>
 ay b (d.add 0) (.pointer e)<|
 mP [15]<|
 gB e u t b λg c=>
 mP [16]<|
 aL (g != 0)
 (Q g c)
 (aP p0 λn=>
 aV c ((n.add 3).add 1) ([VI 1]) λh=>
 Q 0 h)))
def km (p0:Int) (p1:Int) (H:PH) (Q:Int->PH->Prop):Prop:=
 Q (IntKind.wrap .i64 ((IntKind.wrap .i64 ((if p0< 1 then 1 else p0)+1))+p1)) H
def lF (p0:Option Addr) (p1:Sl) (p2:Sl) (H:PH) (Q:Int->PH->Prop):Prop:=
 aj H (row [.pointer p0] 113) λa1 H2=>
 aj H2 (row [VI 0] 32) λk i=>
 mP [0]<|
 aH .pointer i a1 λx7=>
 mP [1]<|
 aP x7 λa9=>
 mP [2,3,4]<|
 aH (.int .i64) i ((a9.add 3).add 4) λao=>
 mP [5]<|
 aH .pointer i a1 λap=>
 mP [6]<|
 aP ap λae=>
 mP [7,8,9]<|
 aH (.int .i64) i ((ae.add 3).add 2) λaq=>
 mP [10]<|
 aH .pointer i a1 λar=>
 mP [11]<|
 aP ar λaf=>
 mP [12,13,14]<|
 aH (.int .i64) i ((af.add 3).add 3) λau=>
 mP [15,16,17,18]<|
 ob (ao,aq,au,p1,p2) i λB C D c=>
 mP [19,20,21,22,23,24,25]<|
 aL (D != 0)
 (aV c k ([VI D]) λw=>
 aH (.int .i64) w k λav=>
 Q av w)
 (aO (mK 1 (λZ (e:Addr)=>Z 2=Sl.v p2/\Z 3=VA a1/\Z 6=VA k/\Z 7=Sl.v B/\Z 8=VI C/\Z 10=VA e) (λe aa=>
 gT B 64 aa λaK ab=>
 iX prog aK (λ(O:List Value) (aM:Unit) (n:PH) (E:Nat->Unit->PH->Prop)=>
 ∃(y:Sl),O=[Sl.v y]/\
 (mP [0]<|
 aH .pointer n a1 λaw=>
 mP [1]<|
 aP aw λag=>
 mP [2,3]<|
 aH .pointer n (ag.add 0) λax=>
 mP [4]<|
 aH (.int .i64) n e λaz=>
 mP [5,6]<|
 gB ax az y n λF r=>
 mP [7]<|
 aL (F != 0)
 (aV r k ([VI F]) λac=>
 E 1 () ac)
 (aH (.int .i64) r e λaA=>
 aV r e ([VI (IntKind.wrap .i64 (aA+1))]) λad=>
 E 0 () ad))) () ab λan aN a=>
 aL (an==1)
 (aH (.int .i64) a k λR=>
 Q R a)
 (mP [0]<|
 aH .pointer a a1 λaB=>
 mP [1]<|
 aP aB λah=>
 mP [2,3]<|
 aH .pointer a (ah.add 2) λaC=>
 mP [4]<|
 aH .pointer a a1 λaD=>
 mP [5]<|
 aP aD λai=>
 mP [6,7,8]<|
 aH (.int .i64) a ((ai.add 3).add 0) λaE=>
 mP [9]<|
 aH .pointer a a1 λaF=>
 mP [10]<|
 aP aF λak=>
 mP [11,12,13]<|
 aH (.int .i64) a ((ak.add 3).add 2) λaG=>
 mP [14]<|
 ke aC aE aG a λd=>
 mP [0]<|
 aH .pointer d a1 λz=>
 mP [1]<|
 aH .pointer d a1 λu=>
 mP [2]<|
 aH .pointer d a1 λo=>
 mP [3]<|
 aH .pointer d a1 λaI=>
 mP [4]<|
 aP aI λal=>
 mP [5,6,7]<|
 aH (.int .i64) d ((al.add 3).add 1) λaJ=>
 mP [8,9,11]<|
 aH .pointer d a1 λA=>
 mP [12]<|
 aP A λx=>
 mP [13,14,15]<|
 aH (.int .i64) d ((x.add 3).add 2) λt=>
 mP [16,17,10]<|
 km aJ (p2.len:Int) d λX b=>
 ay b ((x.add 3).add 2) (VI t)<|
 ay b a1 (.pointer A)<|
 ay b a1 (.pointer o)<|
 ay b a1 (.pointer u)<|
 ay b a1 (.pointer z)<|
 mP [18]<|
 aP z λJ=>
 mP [19,20,21]<|
 aV b ((J.add 3).add 1) ([VI X]) λf=>
 ay f a1 (.pointer o)<|
 ay f a1 (.pointer u)<|
 mP [22]<|
 aP u λK=>
 mP [23,24,25]<|
 aV f ((K.add 3).add 2) ([VI (IntKind.wrap .i64 (t+1))]) λp=>
 ay p a1 (.pointer o)<|
 mP [26]<|
 aP o λL=>
 mP [27,28,29]<|
 aV p ((L.add 3).add 3) ([VI C]) λG=>
 aV G k ([VI 0]) λq=>
 aH (.int .i64) q k λP=>
 Q P q)))
 λam=>
 mP [0]<|
 aH .pointer c a1 λS=>
 mP [1]<|
 aP S λM=>
 mP [2,3]<|
 aH .pointer c (M.add 1) λT=>
 mP [4]<|
 aH .pointer c a1 λU=>
 mP [5]<|
 aP U λN=>
 mP [6,7,8]<|
 aH (.int .i64) c ((N.add 3).add 0) λV=>
 mP [10]<|
 aH .pointer c a1 λl=>
 mP [11]<|
 aP l λj=>
 mP [12,13,14]<|
 aH (.int .i64) c ((j.add 3).add 1) λm=>
 mV [] 9 [9,16]<|
 gO T V c λY g=>
 ay g ((j.add 3).add 1) (VI m)<|
 ay g a1 (.pointer l)<|
 mP [15,16]<|
 aj g (row [VI 0] 3) λs h=>
 ay h ((j.add 3).add 1) (VI m)<|
 ay h a1 (.pointer l)<|
 mP [17]<|
 aV h s ([VI (IntKind.wrap .i64 (Y+m))]) λI=>
 am s I)
def iu (p0:Option Addr) (H:PH) (Q:Int->PH->Prop):Prop:=
 aL (Option.isNone p0)
 (Q 1 H)
 (aP p0 λo=>
 aH .pointer H (o.add 0) λq=>
 iL q H λr b=>
 aL r
 (Q 3 b)
 (aP p0 λp=>
 aH Sl.v b (p.add 8) λl=>
 aL ((l.len:Int)==0)
 (Q 0 b)
 (lE p0 b λd a=>
 aL (d != 0)
 (Q d a)
 (mP [0,1,2]<|
 aP p0 λh=>
 mP [3,4]<|
 aH Sl.v a (h.add 8) λm=>
 mP [5,6]<|
 aP p0 λi=>
 mP [7,8]<|
 aH Sl.v a (i.add 9) λn=>
 mP [9]<|
 lF p0 m n a λe c=>
 mP [10]<|
 aL (e != 0)
 (Q e c)
 (aP p0 λj=>
 aV c (j.add 8) ([Sl.v Sl.nil]) λf=>
 aP p0 λk=>
 aV f (k.add 9) ([Sl.v Sl.nil]) λg=>
 Q 0 g)))))
def oB {γ:Type} (c0:Addr) (Y:List Value->γ->PH->(Nat->γ->PH->Prop)->Prop) (g:γ) (H:PH) (Q:Nat->γ->PH->Prop):Prop:=
 aH .pointer H c0 λo=>
 jx o H λp n=>
 bw (λ(s5:Int×(Nat×γ)) (b:PH) (c:(Int×(Nat×γ))->PH->Prop)=>
 aL (decide (s5.1<p))
 (aH .pointer b c0 λk=>
 aP k λi=>
 aH Sl.v b (i.add 2) λl=>
 bX l 1 s5.1 λj=>
 aH .bool b j λm=>
 aO (λ(a:Bool×(Nat×γ)) (d:PH)=>
 aL a.1
 (Q a.2.1 a.2.2 d)
 (c (IntKind.wrap .i64 (s5.1+1),a.2) d))
 λe=>
 aL m
 (uO Y s5.2 [VI s5.1] b λf h=>
 e (!(f.1==0),f) h)
 (e (false,s5.2) b))
 (Q s5.2.1 s5.2.2 b))
 (0,(0,g)) n
def qR (p0:Option Addr) (H:PH) (Q:Value->PH->Prop):Prop:=
 aj H (row [.pointer p0] 211) λa1 a=>
 Q (.func (.func 312) #[] #[.pointer (some a1)]) a
def uF (p0:Option Addr) (p1:Bool) (H:PH) (Q:Value->PH->Prop):Prop:=
 cv p0 p1 H λb H1=>
 qR b H1 λc a=>
 Q c a
def pw (p0:Option Addr) (p1:Bool) (H:PH) (Q:Sl->Int->PH->Prop):Prop:=
 aj H (row [.pointer p0] 47) λa1 H2=>
 aj H2 (row [.bool p1] 4) λo H5=>
 aj H5 (row [.slice none 0 0] 36) λk H8=>
 aj H8 (row [VI 0] 32) λd m=>
 aH .pointer m a1 λah=>
 aP ah λY=>
 iH 2 (Y.add 16) 1 0 λZ=>
 aH Sl.v m Z λai=>
 df ai m λaC R=>
 aj R (row [.slice none 0 0] 36) λc S=>
 aV S c ([Sl.v aC]) λf=>
 aH .bool f o λak=>
 aO (mK 1 (λρ (ag:Unit)=>ρ 2=VA a1/\ρ 3=VA o/\ρ 4=VA k/\ρ 5=VA d/\ρ 6=VA c) (λag i=>
 mP [0]<|
 aH .pointer i a1 λal=>
 mP [1]<|
 aP al λaa=>
 mP [2,3]<|
 aH .pointer i (aa.add 3) λam=>
 mP [4]<|
 aH .bool i o λan=>
 mP [5]<|
 uF am an i λaD T=>
 iX prog aD (λ(F:List Value) (aI:Unit) (j:PH) (q:Nat->Unit->PH->Prop)=>
 ∃(e:Int),F=[VI e]/\
 (mP [0]<|
 aH .pointer j a1 λao=>
 mP [1]<|
 aP ao λab=>
 mP [2,3]<|
 aH .pointer j (ab.add 3) λap=>
 mP [4]<|
 aH .bool j o λaq=>
 mP [5,6]<|
 ns ap aq e j λaE U=>
 mP [7]<|
 pR aE U λaF w g=>
 mP [8,9,10,11,12]<|
 aL (w != 0)
 (aV g k ([Sl.v Sl.nil]) λV=>
 aV V d ([VI w]) λX=>
 q 1 () X)
 (mP [0]<|
 aH Sl.v g c λar=>
 mP [1,2]<|
 aH Sl.v g c λau=>
 mP [3,4]<|
 bX au 1 e λac=>
 mP [5]<|
 aH (.int .i64) g ac λav=>
 mP [6,7]<|
 bX ar 1 e λad=>
 mP [8]<|
 aV g ad ([VI (IntKind.wrap .i64 (1-av))]) λa=>
 mP [0]<|
 aH .pointer a a1 λt=>
 mP [1]<|
 aP t λr=>
 mP [2,3]<|
 aH .pointer a (r.add 0) λu=>
 mP [4]<|
 aH .pointer a a1 λaw=>
 mP [5]<|
 aP aw λae=>
 mP [6,7]<|
 aH .pointer a (ae.add 1) λax=>
 mP [8]<|
 aH .bool a o λaz=>
 mP [9,10]<|
 aH Sl.v a c λaA=>
 mP [11,12]<|
 bX aA 1 e λaf=>
 mP [13]<|
 aH (.int .i64) a af λaB=>
 mP [15,14]<|
 lK ax az e aB a λO n=>
 ay n (r.add 0) (.pointer u)<|
 ay n a1 (.pointer t)<|
 mP [16]<|
 gB u O aF n λp l=>
 mP [17]<|
 aL (p != 0)
 (aV l k ([Sl.v Sl.nil]) λx=>
 aV x d ([VI p]) λy=>
 q 1 () y)
 (q 0 () l)))) () T λE aG b=>
 aL (E==1)
 (aH Sl.v b k λK=>
 aH (.int .i64) b d λL=>
 Q K L b)
 (aH Sl.v b c λG=>
 aV b k ([Sl.v G]) λz=>
 aV z d ([VI 0]) λh=>
 aH Sl.v h k λI=>
 aH (.int .i64) h d λJ=>
 Q I J h)))
 λs=>
 aL ak
 (aH .pointer f a1 λM=>
 aP M λC=>
 iH 2 (C.add 16) 1 1 λD=>
 aH Sl.v f D λN=>
 df N f λP A=>
 aV A c ([Sl.v P]) λB=>
 s () B)
 (s () f)
def mv (p0:Option Addr) (H:PH) (Q:iV->PH->Prop):Prop:=
 aj H (row gr 185) λa1 b=>
 aL (Option.isNone p0)
 (aV b a1 (gr) λc=>
 aT ag c a1 5 λg=>
 Q g c)
 (aP p0 λf=>
 aT ag b (f.add 3) 5 λd=>
 aV b a1 (ag d) λa=>
 aT ag a a1 5 λe=>
 Q e a)
def iQ (p0:Sl) (H:PH) (Q:Sl->PH->Prop):Prop:=
 aL (Option.isNone p0.a)
 (Q Sl.nil H)
 (bZ H (row [] 210) 0 λd b=>
 fh b 210 2 16 [VI 0,VI 0] d p0 λr5 c=>
 Q r5 c)
def oC (p0:Option Addr) (p1:Int) (H:PH) (Q:Bool->PH->Prop):Prop:=
 aP p0 λa1=>
 aH Sl.v H (a1.add 1) λh=>
 bX h 2 p1 λg=>
 aH (.int .i64) H (g.add 0) λi=>
 aO (mK 9 (λj (cr:Bool)=>j 23=VB cr) (λcr b=>
 Q cr b))
 λa=>
 aL (i==2)
 (aP p0 λc=>
 aH Sl.v H (c.add 2) λe=>
 bX e 1 p1 λd=>
 aH (.int .i64) H d λf=>
 a (f==0) H)
 (a false H)
def qy (p0:Option Addr) (p1:Bool) (H:PH) (Q:Sl->PH->Prop):Prop:=
 aL (Option.isNone p0)
 (Q Sl.nil H)
 (aP p0 λq=>
 aH Sl.v H (q.add 1) λr=>
 iQ r H λb p=>
 bw (mL (λc (a:Int)=>c 0=VP p0/\c 1=VB p1/\c 5=Sl.v b/\c 15=VI (b.len:Int)/\c 16=VI a) (λa d e=>
 aL (decide (a<(b.len:Int)))
 (aO (mB (λc (n:Unit)=>c 0=VP p0/\c 1=VB p1/\c 5=Sl.v b/\c 15=VI (b.len:Int)/\c 16=VI a) (λn j=>
 e (IntKind.wrap .i64 (a+1)) j))
 λh=>
 aO (mK 4 (λc (f:Bool)=>c 0=VP p0/\c 1=VB p1/\c 5=Sl.v b/\c 6=VI a/\c 15=VI (b.len:Int)/\c 16=VI a/\c 24=VB f) (λf g=>
 aL f
 (bX b 2 a λm=>
 aV g (m.add 0) ([VI 0]) λk=>
 h () k)
 (h () g)))
 λi=>
 aL p1
 (oC p0 a d λo l=>
 i o l)
 (i false d))
 (Q b d)))
 0 p)
def oy (p0:Option Addr) (p1:YM) (H:PH) (Q:Int->PH->Prop):Prop:=
 aj H (row (uE p1) 114) λa1 c=>
 mP [0,1]<|
 aP p0 λD=>
 mP [2,3]<|
 aH .pointer c (D.add 1) λF=>
 mP [4,5]<|
 aP p0 λE=>
 mP [6,7,8]<|
 aH (.int .i64) c ((E.add 5).add 6) λn=>
 mP [9,10,11]<|
 aP p0 λg=>
 mP [12,13,14]<|
 aH (.int .i64) c ((g.add 5).add 1) λo=>
 mP [15,16]<|
 aP p0 λh=>
 mP [17,18,19]<|
 aH (.int .i64) c ((h.add 5).add 0) λp=>
 mP [20,21]<|
 aP p0 λi=>
 mP [22,23,24]<|
 aH (.int .i64) c ((i.add 5).add 2) λq=>
 mP [25,26]<|
 aP p0 λj=>
 mP [27,28,29]<|
 aH (.int .i64) c ((j.add 5).add 3) λr=>
 mP [30,31]<|
 aP p0 λk=>
 mP [32,33,34]<|
 aH (.int .i64) c ((k.add 5).add 4) λs=>
 mP [35,36]<|
 aP p0 λI=>
 mP [37,38]<|
 aH .pointer c (I.add 4) λM=>
 mP [40]<|
 iH 2 a1 1 0 λl=>
 mP [41]<|
 aH Sl.v c l λt=>
 mP [42]<|
 iH 2 a1 1 1 λm=>
 mP [43]<|
 aH Sl.v c m λu=>
 mP [44,45]<|
 aP p0 λx=>
 mP [46,47]<|
 aH .pointer c (x.add 2) λz=>
 mP [39]<|
 mv M c λe a=>
 ay a (x.add 2) (.pointer z)<|
 ay a m (Sl.v u)<|
 ay a l (Sl.v t)<|
 ay a ((k.add 5).add 4) (VI s)<|
 ay a ((j.add 5).add 3) (VI r)<|
 ay a ((i.add 5).add 2) (VI q)<|
 ay a ((h.add 5).add 0) (VI p)<|
 ay a ((g.add 5).add 1) (VI o)<|
 ay a ((E.add 5).add 6) (VI n)<|
 ay a (D.add 1) (.pointer F)<|
 mP [48]<|
 qy z true a λR b=>
 ay b m (Sl.v u)<|
 ay b l (Sl.v t)<|
 ay b ((k.add 5).add 4) (VI s)<|
 ay b ((j.add 5).add 3) (VI r)<|
 ay b ((i.add 5).add 2) (VI q)<|
 ay b ((h.add 5).add 0) (VI p)<|
 ay b ((g.add 5).add 1) (VI o)<|
 ay b ((E.add 5).add 6) (VI n)<|
 ay b (D.add 1) (.pointer F)<|
 mP [49,50]<|
 mn F (IntKind.wrap .i64 (n+1),o,p,q,r,s,e.1,e.2.1,e.2.2.1,e.2.2.2.1,e.2.2.2.2,t,u,R) b λS B d=>
 mP [51,52,53,54,55]<|
 aL (B != 0)
 (Q B d)
 (mP [0,1]<|
 aP p0 λy=>
 mP [2,3]<|
 aH .pointer d (y.add 0) λA=>
 mP [4,5]<|
 aP p0 λJ=>
 mP [6,7]<|
 aH .pointer d (J.add 1) λN=>
 mP [8,9]<|
 aP p0 λK=>
 mP [10,11]<|
 aH (.int .i64) d (K.add 15) λO=>
 mP [12,14,13]<|
 jr N (IntKind.wrap .i64 (1-O)) d λT w=>
 ay w (y.add 0) (.pointer A)<|
 mP [15]<|
 xn A T S w λC f=>
 mP [16]<|
 aL (C != 0)
 (Q C f)
 (aP p0 λL=>
 aH .pointer f (L.add 0) λP=>
 gC P f λU G=>
 Q U G))
def mM (p0:Option Addr) (H:PH) (Q:PH->Prop):Prop:=
 aL (!(Option.isNone p0))
 (aP p0 λb=>
 aH Sl.v H (b.add 2) λc=>
 xf H 1 [.bool false] c λa=>
 Q a)
 (Q H)
def px (p0:Option Addr) (H:PH) (Q:PH->Prop):Prop:=
 cv p0 false H λd H1=>
 mM d H1 λa=>
 cv p0 true a λe b=>
 mM e b λc=>
 Q c
def oQ (p0:Option Addr) (H:PH) (Q:Sl->PH->Prop):Prop:=
 aL (Option.isNone p0)
 (Q Sl.nil H)
 (aP p0 λs=>
 aH Sl.v H (s.add 1) λg=>
 bw (mL (λe (a:Sl×Int)=>e 0=VP p0/\e 2=Sl.v a.1/\e 10=VI (g.len:Int)/\e 11=VI a.2) (λa l c=>
 aL (decide (a.2<(g.len:Int)))
 (aO (mB (λe (d:Sl)=>e 0=VP p0/\e 2=Sl.v d/\e 10=VI (g.len:Int)/\e 11=VI a.2) (λd h=>
 c (d,IntKind.wrap .i64 (a.2+1)) h))
 λf=>
 oC p0 a.2 l λr b=>
 aL r
 (aP p0 λm=>
 aH Sl.v b (m.add 1) λq=>
 bX q 2 a.2 λn=>
 aV b (n.add 0) ([VI 0]) λi=>
 bZ i (row [VI a.2] 3) 1 λo j=>
 fh j 3 1 8 [VI 0] a.1 o λp k=>
 f p k)
 (f a.1 b))
 (Q a.1 l)))
 (Sl.nil,0) H)
def je (p0:Option Addr) (H:PH) (Q:Sl->Int->PH->Prop):Prop:=
 ir p0 0 true H λK H1=>
 aL (K != 0)
 (Q Sl.nil K H1)
 (aP p0 λO=>
 aH .pointer H1 (O.add 4) λP=>
 iu P H1 λN s=>
 aL (N != 0)
 (Q Sl.nil N s)
 (aj s (row [.slice none 0 0,.slice none 0 0] 114) λa p=>
 bw (mL (λR (b:Int)=>R 0=VP p0/\R 4=VA a/\R 19=VI b) (λb e d=>
 aL (decide (b< 2))
 (pw p0 (b==1) e λL m q=>
 iH 2 a 1 b λt=>
 aV q t ([Sl.v L]) λh=>
 aL (m != 0)
 (Q Sl.nil m h)
 (d (IntKind.wrap .i64 (b+1)) h))
 (aP p0 λu=>
 aH .pointer e (u.add 0) λD=>
 gC D e λn f=>
 aL (n != 0)
 (Q Sl.nil n f)
 (aT uE f a 2 λE=>
 oy p0 E f λo c=>
 aL (o != 0)
 (Q Sl.nil o c)
 (mP [0,1,2,3,4]<|
 aP p0 λw=>
 mP [5,6,7]<|
 aH (.int .i64) c ((w.add 5).add 6) λF=>
 mP [8,9,10]<|
 aP p0 λx=>
 mP [11,12]<|
 aH (.int .i64) c (x.add 15) λG=>
 mP [13,14]<|
 aT uE c a 2 λg=>
 mP [15]<|
 aP p0 λy=>
 mP [16,17,18]<|
 aV c ((y.add 5).add 6) ([VI (IntKind.wrap .i64 (F+1))]) λi=>
 gQ i a 2 (uE g)<|
 mP [19]<|
 aP p0 λz=>
 mP [20,21]<|
 aV i (z.add 15) ([VI (IntKind.wrap .i64 (1-G))]) λj=>
 gQ j a 2 (uE g)<|
 mP [22]<|
 aP p0 λA=>
 mP [23,24]<|
 aV j (A.add 16) (uE g) λk=>
 aP p0 λB=>
 aH .pointer k (B.add 3) λI=>
 px I k λl=>
 aP p0 λC=>
 aH .pointer l (C.add 2) λJ=>
 oQ J l λM r=>
 Q M 0 r)))))
 0 p))
def kh (p0:Option Addr) (p1:Int) (p2:Int) (H:PH) (Q:Int->PH->Prop):Prop:=
 aL (Option.isNone p0)
 (Q 3 H)
 (aP p0 λF=>
 aH (.int .i64) H ((F.add 5).add 0) λG=>
 aL (G != 1)
 (Q 7 H)
 (aO (mK 3 (λb (g:Bool)=>b 0=VP p0/\b 1=VI p1/\b 2=VI p2/\b 25=VB g) (λg c=>
 aO (mK 7 (λb (e:Bool)=>b 0=VP p0/\b 1=VI p1/\b 2=VI p2/\b 33=VB e) (λe a=>
 aL e
 (Q 1 a)
 (aP p0 λq=>
 aH (.int .i64) a ((q.add 5).add 1) λy=>
 aL (decide (p1<=y))
 (Q 8 a)
 (aP p0 λr=>
 aH .pointer a (r.add 0) λz=>
 iL z a λC d=>
 aL C
 (Q 3 d)
 (aP p0 λs=>
 aH .pointer d (s.add 3) λA=>
 l9 A d λD k=>
 jt p0 0 D k λh=>
 aP p0 λt=>
 aH (.int .i64) h ((t.add 5).add 4) λB=>
 aP p0 λu=>
 aV h ((u.add 5).add 3) ([VI B]) λl=>
 aP p0 λv=>
 aV l ((v.add 5).add 1) ([VI p1]) λm=>
 aP p0 λw=>
 aV m ((w.add 5).add 0) ([VI p2]) λn=>
 je p0 n λI E o=>
 Q E o)))))
 λi=>
 aL g
 (i true c)
 (aO (mK 3 (λb (f:Bool)=>b 0=VP p0/\b 1=VI p1/\b 2=VI p2/\b 26=VB g/\b 32=VB f) (λf p=>
 i f p))
 λj=>
 aL (p2 != 1)
 (j (p2 != 2) c)
 (j false c))))
 λx=>
 aL (decide (p1< 1))
 (x true H)
 (x (decide (2147483647<p1)) H)))
def gG (p0:Option Addr) (H:PH) (Q:Bool->PH->Prop):Prop:=
 aO (mK 7 (λe (s2:Bool)=>e 12=VB s2) (λs2 b=>
 Q s2 b))
 λa=>
 aL (Option.isNone p0)
 (a true H)
 (aP p0 λc=>
 aH Sl.v H (c.add 0) λd=>
 a ((d.len:Int)==0) H)
def jl (p0:Option Addr) (p1:Int) (H:PH) (Q:PH->Prop):Prop:=
 gG p0 H λl H1=>
 aO (mK 3 (λd (s4:Bool)=>d 0=VP p0/\d 1=VI p1/\d 9=VB s4) (λs4 g=>
 aO (mK 3 (λd (c:Bool)=>d 0=VP p0/\d 1=VI p1/\d 13=VB c) (λc a=>
 aL c
 (Q a)
 (aP p0 λh=>
 aH Sl.v a (h.add 0) λk=>
 xf a 6 Jk k λe=>
 aP p0 λi=>
 aV e (i.add 1) ([VI p1]) λf=>
 Q f)))
 λb=>
 aL s4
 (b true g)
 (b (decide (2147483647<p1)) g)))
 λj=>
 aL l
 (j true H1)
 (j (decide (p1< 1)) H1)
def iM (p0:Option Addr) (H:PH) (Q:Sl->Int->PH->Prop):Prop:=
 aP p0 λa1=>
 aH .pointer H (a1.add 0) λl=>
 eI l H λm j=>
 aj j (row lv 42) λb k=>
 aV k b (dB m) λa=>
 aH (.int .i64) a (b.add 1) λd=>
 aH (.int .i64) a (b.add 3) λe=>
 aH (.int .i64) a (b.add 2) λf=>
 aH (.int .i64) a (b.add 4) λg=>
 ny (8,d,e,0,0,f,g,Sl.nil) a λh i c=>
 Q h i c
def mN (p0:Option Addr) (p1:Int) (H:PH) (Q:Sl->Int->PH->Prop):Prop:=
 aP p0 λa1=>
 aH .pointer H (a1.add 0) λx=>
 eI x H λy v=>
 aj v (row lv 42) λh w=>
 aV w h (dB y) λa=>
 aH (.int .i64) a (h.add 1) λo=>
 aL (decide (p1<o))
 (Q Sl.nil 8 a)
 (aH (.int .i64) a (h.add 1) λp=>
 aO (mK 1 (λz (n:Unit)=>z 0=VP p0) (λn i=>
 iM p0 i λs t j=>
 Q s t j))
 λe=>
 aL (decide (p<p1))
 (aP p0 λl=>
 aH .pointer a (l.add 0) λq=>
 kh q p1 1 a λg b=>
 aL (g != 0)
 (Q Sl.nil g b)
 (mP [0,1]<|
 aP p0 λd=>
 mP [2,3]<|
 aH .pointer b (d.add 1) λf=>
 mP [4,5]<|
 aP p0 λm=>
 mP [6,7]<|
 aH .pointer b (m.add 0) λr=>
 mP [8]<|
 eI r b λu c=>
 ay c (d.add 1) (.pointer f)<|
 mP [9,10,11]<|
 jl f (IntKind.wrap .i64 (u.2.2.2.1+1)) c λk=>
 e () k))
 (e () a))
def By (p0:jk) (H:PH) (Q:qL->Bool->PH->Prop):Prop:=
 aj H (row (bS p0) 54) λa1 z=>
 aj z (row nW 152) λc q=>
 aT bS q a1 8 λA=>
 vT A q λx o=>
 aO (mK 4 (λp (e:Bool)=>p 1=VA a1/\p 2=VA c/\p 11=VB e) (λe d=>
 aO (mK 4 (λp (f:Bool)=>p 1=VA a1/\p 2=VA c/\p 16=VB f) (λf a=>
 aL f
 (aV a c ([VI 0,VI 0,VI 0,VI 0,Sl.v Sl.nil]) λg=>
 aT b9 g c 5 λr=>
 Q r false g)
 (mP [0,1]<|
 aH (.int .i64) a (a1.add 0) λk=>
 mP [2,3]<|
 aH (.int .i64) a (a1.add 3) λl=>
 mP [4,5]<|
 aH (.int .i64) a (a1.add 4) λm=>
 mP [6,7]<|
 aH (.int .i64) a (a1.add 5) λn=>
 mP [8,9]<|
 aH Sl.v a (a1.add 7) λs=>
 mP [10]<|
 cC s a λy b=>
 ay b (a1.add 5) (VI n)<|
 ay b (a1.add 4) (VI m)<|
 ay b (a1.add 3) (VI l)<|
 ay b (a1.add 0) (VI k)<|
 mP [11,12]<|
 aV b c ([VI k,VI l,VI m,VI n,Sl.v y]) λh=>
 mP [13]<|
 aT b9 h c 5 λt=>
 Q t true h)))
 λj=>
 aL e
 (j true d)
 (aH (.int .i64) d (a1.add 0) λu=>
 j (u==9) d)))
 λi=>
 aL (!x)
 (i true o)
 (aH (.int .i64) o (a1.add 0) λw=>
 i (w==8) o)
def fm (p0:Option Addr) (p1:Int) (H:PH) (Q:Option Addr->PH->Prop):Prop:=
 mP [0,1]<|
 aP p0 λa1=>
 mP [2,3]<|
 aH Sl.v H (a1.add 0) λd=>
 mP [4,5,6]<|
 aP p0 λc=>
 mP [7,8]<|
 aH Sl.v H (c.add 0) λb=>
 mP [9,10]<|
 Ar (b.len:Int)<|
 mP [11]<|
 bX d 6 (Int.tmod p1 (b.len:Int)) λa=>
 mP [12]<|
 Q (some a) H
def kO (p0:Option Addr) (p1:Int) (p2:qL) (H:PH) (Q:Int->PH->Prop):Prop:=
 aj H (row (b9 p2) 152) λa1 o=>
 gG p0 o λr b=>
 aL r
 (Q 10 b)
 (aP p0 λp=>
 aH (.int .i64) b (p.add 1) λq=>
 aL (decide (p1<q))
 (Q 9 b)
 (mP [0,1,2]<|
 aP p0 λf=>
 mP [3,4]<|
 aH (.int .i64) b (f.add 1) λj=>
 mP [5,6]<|
 aP p0 λg=>
 mP [7,8]<|
 aH Sl.v b (g.add 0) λk=>
 mP [9,10,11,12]<|
 aL (decide ((IntKind.wrap .i64 (j+(k.len:Int)))<=p1))
 (Q 10 b)
 (fm p0 p1 b λm c=>
 aP m λh=>
 aH .bool c (h.add 5) λl=>
 aL l
 (Q 9 c)
 (mP [0,1,3]<|
 aT b9 c a1 5 λa=>
 mP [4,2]<|
 fm p0 p1 c λn d=>
 gQ d a1 5 (b9 a)<|
 mP [5]<|
 aP n λi=>
 mP [6]<|
 aV d i ([VI a.1,VI a.2.1,VI a.2.2.1,VI a.2.2.2.1,Sl.v a.2.2.2.2,.bool true]) λe=>
 Q 0 e))))
def fN (p0:Option Addr) (H:PH) (Q:qL->Bool->PH->Prop):Prop:=
 aj H (row nW 152) λa1 n=>
 gG p0 n λp c=>
 aL p
 (aT b9 c a1 5 λo=>
 aV c a1 (b9 o) λg=>
 aT b9 g a1 5 λj=>
 Q j false g)
 (aP p0 λh=>
 aH (.int .i64) c (h.add 1) λk=>
 fm p0 k c λf a=>
 mP [0,1]<|
 aP f λi=>
 mP [2,3]<|
 aT b9 a (i.add 0) 5 λl=>
 mP [4,5]<|
 aP f λd=>
 mP [6,7]<|
 aH .bool a (d.add 5) λe=>
 mP [8]<|
 aV a a1 (b9 l) λb=>
 ay b (d.add 5) (.bool e)<|
 mP [9]<|
 aT b9 b a1 5 λm=>
 Q m e b)
def mO (p0:Option Addr) (p1:Int) (p2:Int) (H:PH) (Q:Bool->PH->Prop):Prop:=
 kg p0 H λm H1=>
 iq m H1 λd j=>
 aO (mK 4 (λc (h:Bool)=>c 1=VI p1/\c 2=VI p2/\c 7=VI d/\c 17=VB h) (λh k=>
 aO (mK 3 (λc (a:Bool)=>c 1=VI p1/\c 2=VI p2/\c 7=VI d/\c 21=VB a) (λa e=>
 aO (mK 6 (λc (b:Bool)=>c 28=VB b) (λb i=>
 Q b i))
 λg=>
 aL a
 (g (decide (p1<=(IntKind.wrap .i64 (d-p2)))) e)
 (g false e)))
 λf=>
 aL h
 (f (decide (0<=p1)) k)
 (f false k)))
 λl=>
 aL (decide (1<=p2))
 (l (decide (p2<=d)) j)
 (l false j)
def mC (p0:Option Addr) (p1:Int) (p2:Int) (p3:Int) (H:PH) (Q:Bool->PH->Prop):Prop:=
 mP [0,1,2]<|
 aO (mQ 16383 [9] (λi (s2:Bool)=>i 8=VB false/\i 22=VB s2) (λs2 h=>
 mP [14]<|
 Q s2 h))
 λd=>
 aL (decide (p2<=6))
 (mP [3,4,6,7]<|
 aP p0 λc=>
 mP [8,9]<|
 aH .pointer H (c.add 1) λe=>
 mP [5]<|
 km p1 p3 H λf a=>
 ay a (c.add 1) (.pointer e)<|
 mP [10]<|
 dF e a λg b=>
 mP [11,12,13]<|
 d (decide (f<g.2.2)) b)
 (mP [3,4,5,6,7,8,9,10,11,12,13]<|
 d false H)
def fG (p0:Sl) (p1:Value) (H:PH) (Q:Int->PH->Prop):Prop:=
 bw (λ(s1:Int) (d:PH) (a:Int->PH->Prop)=>
 aL (decide (s1<(p0.len:Int)))
 (bX p0 2 s1 λf=>
 aT dx d f 2 λg=>
 xI prog p1 [.agg (dx g).toArray] d λe b=>
 ∃(c:Bool),e= .bool c/\
 aL c
 (Q s1 b)
 (a (IntKind.wrap .i64 (s1+1)) b))
 (Q (-1) d))
 0 H
def rA (p0:Option Addr) (p1:Bool) (H:PH) (Q:Int->Bool->PH->Prop):Prop:=
 aO (mK 8 (λf (s2:Bool)=>f 0=VP p0/\f 17=VB s2) (λs2 e=>
 aL s2
 (Q 0 false e)
 (aP p0 λm=>
 aH Sl.v e (m.add 1) λn=>
 fG n (.func (.func 316) #[] #[]) e λd g=>
 lN p0 d g λk b=>
 aL (!k)
 (Q 0 false b)
 (Q d true b))))
 λj=>
 aL (Option.isNone p0)
 (j true H)
 (aO (mK 4 (λf (a:Bool)=>f 0=VP p0/\f 9=VB (Option.isNone p0)/\f 16=VB a) (λa h=>
 j a h))
 λc=>
 aL (!p1)
 (lP p0 H λl i=>
 c (decide (l<=2)) i)
 (c false H))
def oz (p0:Option Addr) (p1:Int) (H:PH) (Q:Int->PH->Prop):Prop:=
 aP p0 λa1=>
 aH (.int .i64) H ((a1.add 3).add 0) λm=>
 bZ H (row [VI 7,VI 0,VI 0,VI p1] 196) 1 λr5 l=>
 lF p0 r5 Sl.nil l λk a=>
 aL (k != 0)
 (Q k a)
 (aP p0 λf=>
 aH .pointer a (f.add 2) λi=>
 lO i m a λb=>
 aP p0 λg=>
 aV b ((g.add 3).add 0) ([VI p1]) λc=>
 aP p0 λh=>
 aV c ((h.add 3).add 1) ([VI 0]) λd=>
 lE p0 d λj e=>
 Q j e)
def o0 (p0:Option Addr) (p1:Int) (p2:Bool) (H:PH) (Q:Int->PH->Prop):Prop:=
 mP [0,1,2]<|
 aP p0 λa1=>
 mP [3,4,5]<|
 aH (.int .i64) H ((a1.add 3).add 1) λF=>
 mP [6,7]<|
 aP p0 λD=>
 mP [8,9]<|
 aH Sl.v H (D.add 8) λG=>
 mP [10,11,12,13]<|
 aP p0 λE=>
 mP [14,15]<|
 aH Sl.v H (E.add 9) λq=>
 mP [16,17,18,19]<|
 mC p0 F (IntKind.wrap .i64 ((G.len:Int)+1)) (IntKind.wrap .i64 ((q.len:Int)+p1)) H λu a=>
 aL u
 (Q 0 a)
 (aP p0 λm=>
 aH (.int .i64) a ((m.add 3).add 1) λg=>
 aP p0 λn=>
 aH Sl.v a (n.add 8) λr=>
 aO (mK 1 (λC (c:Int)=>C 0=VP p0/\C 1=VI p1/\C 2=VB p2/\C 7=VI c) (λc i=>
 mC p0 c 1 p1 i λw b=>
 aL w
 (iu p0 b λx j=>
 Q x j)
 (aP p0 λo=>
 aH .pointer b (o.add 2) λs=>
 rA s p2 b λy z d=>
 aL (!z)
 (Q 6 d)
 (iu p0 d λh e=>
 aL (h != 0)
 (Q h e)
 (oz p0 y e λA k=>
 Q A k)))))
 λf=>
 aL (decide (0<(r.len:Int)))
 (aP p0 λp=>
 aH Sl.v a (p.add 9) λt=>
 km g (t.len:Int) a λB l=>
 f B l)
 (f g a))
def lG (p0:Option Addr) (H:PH) (Q:Int->PH->Prop):Prop:=
 mP [0,1]<|
 aP p0 λa1=>
 mP [2,3]<|
 aH .pointer H (a1.add 1) λh=>
 mP [4,5]<|
 aP p0 λg=>
 mP [6,7,8]<|
 aH (.int .i64) H ((g.add 3).add 0) λi=>
 mP [10,11]<|
 aP p0 λd=>
 mP [12,13,14]<|
 aH (.int .i64) H ((d.add 3).add 1) λb=>
 mP [9]<|
 gO h i H λe a=>
 ay a ((d.add 3).add 1) (VI b)<|
 mP [15]<|
 km b 0 a λf c=>
 mP [16,17]<|
 Q (IntKind.wrap .i64 (e+f)) c
def ki (p0:Option Addr) (p1:xl) (p2:Sl) (p3:Bool) (H:PH) (Q:Int->Int->PH->Prop):Prop:=
 aj H (row (dG p1) 196) λa1 E=>
 aT dG E a1 4 λx4=>
 pT x4 E λy7 I=>
 aO (mK 1 (λa (b:Int)=>a 0=VP p0/\a 2=Sl.v p2/\a 3=VB p3/\a 5=VA a1/\a 8=VI 0/\a 10=VI b) (λb d=>
 aO (mK 4 (λa (i:Bool)=>a 0=VP p0/\a 2=Sl.v p2/\a 3=VB p3/\a 5=VA a1/\a 8=VI 0/\a 10=VI b/\a 21=VB i) (λi e=>
 aO (mK 4 (λa (j:Bool)=>a 0=VP p0/\a 2=Sl.v p2/\a 3=VB p3/\a 5=VA a1/\a 8=VI 0/\a 10=VI b/\a 26=VB j) (λj n=>
 aO (mK 5 (λa (k:Bool)=>a 0=VP p0/\a 2=Sl.v p2/\a 3=VB p3/\a 5=VA a1/\a 8=VI 0/\a 10=VI b/\a 32=VB k) (λk f=>
 aL k
 (Q 0 1 f)
 (aP p0 λL=>
 aH .pointer f (L.add 0) λU=>
 iL U f λZ o=>
 aL Z
 (Q 0 3 o)
 (o0 p0 (IntKind.wrap .i64 (Int.tdiv b 64)) p3 o λD c=>
 aL (D != 0)
 (Q 0 D c)
 (aO (mK 1 (λa (l:Int)=>a 0=VP p0/\a 5=VA a1/\a 8=VI l) (λl g=>
 mP [0,1,2]<|
 aP p0 λu=>
 mP [3,4]<|
 aH Sl.v g (u.add 8) λB=>
 mP [5]<|
 aT dG g a1 4 λV=>
 mP [6]<|
 bZ g (row (dG V) 196) 1 λP p=>
 ay p (u.add 8) (Sl.v B)<|
 mP [7]<|
 fh p 196 4 32 uQ B P λR F=>
 mP [8]<|
 aP p0 λM=>
 mP [9,10]<|
 aV F (M.add 8) ([Sl.v R]) λG=>
 Q l 0 G))
 λA=>
 aL (decide (0<b))
 (mP [0,1,2]<|
 aP p0 λh=>
 mP [3,4]<|
 aH Sl.v c (h.add 9) λm=>
 mP [5,6]<|
 cC p2 c λaa q=>
 ay q (h.add 9) (Sl.v m)<|
 mP [7]<|
 bZ q (row [Sl.v aa] 50) 1 λS r=>
 ay r (h.add 9) (Sl.v m)<|
 mP [8]<|
 fh r 50 1 24 [.slice none 0 0] m S λT J=>
 mP [9]<|
 aP p0 λN=>
 mP [10,11]<|
 aV J (N.add 9) ([Sl.v T]) λs=>
 mP [0,2,3]<|
 aP p0 λw=>
 mP [4,5]<|
 aH Sl.v s (w.add 9) λC=>
 mP [6,1]<|
 lG p0 s λab t=>
 ay t (w.add 9) (Sl.v C)<|
 mP [7,8,9]<|
 A (IntKind.wrap .i64 ((IntKind.wrap .i64 (ab+(C.len:Int)))- 1)) t)
 (A 0 c))))))
 λz=>
 aL j
 (z true n)
 (z ((p2.len:Int) != b) n)))
 λy=>
 aL i
 (y true e)
 (aH (.int .i64) e (a1.add 0) λX=>
 y (X==7) e)))
 λx=>
 aL (Option.isNone p0)
 (x true d)
 (aT dG d a1 4 λY=>
 vE Y d λac K=>
 x (!ac) K)))
 λO=>
 aL y7
 (O 64 I)
 (O 0 I)
def py (p0:Option Addr) (p1:Int) (p2:Sl) (H:PH) (Q:Int->PH->Prop):Prop:=
 mO p0 p1 1 H λw H1=>
 aO (mK 4 (λt (s4:Bool)=>t 0=VP p0/\t 1=VI p1/\t 2=Sl.v p2/\t 12=VP p0/\t 20=VB s4) (λs4 u=>
 ir p0 1 s4 u λs e=>
 aL (s != 0)
 (Q s e)
 (aP p0 λi=>
 aH .pointer e (i.add 4) λo=>
 ki o (1,p1,0,0) p2 false e λc d a=>
 aL (d != 0)
 (Q d a)
 (aP p0 λj=>
 aH (.int .i64) a ((j.add 5).add 3) λp=>
 aP p0 λk=>
 aV a ((k.add 5).add 3) ([VI (IntKind.wrap .i64 (p+1))]) λb=>
 aP p0 λl=>
 aH .pointer b (l.add 3) λq=>
 pn q p1 c b λr x f=>
 bZ f (row [VI r] 3) 1 λn g=>
 jt p0 c n g λh=>
 Q 0 h))))
 λm=>
 aL w
 (m ((p2.len:Int)==64) H1)
 (m false H1)
def rB (p0:Option Addr) (p1:Int) (p2:Int) (H:PH) (Q:Int->PH->Prop):Prop:=
 mO p0 p1 p2 H λp H1=>
 ir p0 1 p H1 λm d=>
 aL (m != 0)
 (Q m d)
 (aP p0 λn=>
 aH .pointer d (n.add 4) λo=>
 ki o (2,p1,p2,0) Sl.nil false d λq c a=>
 aL (c != 0)
 (Q c a)
 (aP p0 λg=>
 aH (.int .i64) a ((g.add 5).add 3) λj=>
 aP p0 λh=>
 aV a ((h.add 5).add 3) ([VI (IntKind.wrap .i64 (j+1))]) λb=>
 aP p0 λi=>
 aH .pointer b (i.add 3) λk=>
 nt k p1 p2 b λl r e=>
 jt p0 0 l e λf=>
 Q 0 f))
def pz (p0:Option Addr) (H:PH) (Q:Int->PH->Prop):Prop:=
 aP p0 λa1=>
 aH .pointer H (a1.add 4) λg=>
 iu g H λe a=>
 aL (e != 0)
 (Q e a)
 (aP p0 λf=>
 aH .pointer a (f.add 0) λc=>
 gC c a λd b=>
 Q d b)
def rC (p0:Option Addr) (p1:Int) (H:PH) (Q:Int->PH->Prop):Prop:=
 aO (mK 9 (λz (s2:Bool)=>z 0=VP p0/\z 1=VI p1/\z 9=VP p0/\z 21=VB s2) (λs2 A=>
 ir p0 1 s2 A λy g=>
 aL (y != 0)
 (Q y g)
 (aP p0 λB=>
 aH .pointer g (B.add 4) λs=>
 ki s (3,0,0,p1) Sl.nil false g λC e b=>
 aL (e != 0)
 (Q e b)
 (pz p0 b λf a=>
 aL (f != 0)
 (Q f a)
 (aP p0 λk=>
 aH (.int .i64) a ((k.add 5).add 3) λt=>
 aP p0 λl=>
 aV a ((l.add 5).add 2) ([VI p1]) λh=>
 aP p0 λm=>
 aV h ((m.add 5).add 3) ([VI (IntKind.wrap .i64 (t+1))]) λc=>
 aP p0 λn=>
 aH (.int .i64) c ((n.add 5).add 3) λu=>
 aP p0 λo=>
 aV c ((o.add 5).add 4) ([VI u]) λd=>
 aP p0 λp=>
 aH .pointer d (p.add 3) λv=>
 mA v d λx i=>
 jt p0 0 x i λj=>
 Q 0 j)))))
 λr=>
 aL (!(Option.isNone p0))
 (aP p0 λq=>
 aH (.int .i64) H ((q.add 5).add 2) λw=>
 r (p1==(IntKind.wrap .i64 (w+1))) H)
 (r false H)
def nI (p0:Option Addr) (p1:qL) (H:PH) (Q:Int->PH->Prop):Prop:=
 aj H (row (b9 p1) 152) λa1 a=>
 aH (.int .i64) a (a1.add 0) λn=>
 aL (n==1)
 (mP [0,1]<|
 aP p0 λr=>
 mP [2,3]<|
 aH .pointer a (r.add 0) λs=>
 mP [4,5]<|
 aH (.int .i64) a (a1.add 1) λg=>
 mP [6,7]<|
 aH Sl.v a (a1.add 4) λh=>
 mP [8]<|
 py s g h a λo b=>
 mP [9]<|
 Q o b)
 (aL (n==2)
 (mP [0,1]<|
 aP p0 λe=>
 mP [2,3]<|
 aH .pointer a (e.add 0) λi=>
 mP [4,5]<|
 aH (.int .i64) a (a1.add 1) λj=>
 mP [6,7]<|
 aH (.int .i64) a (a1.add 2) λk=>
 mP [8]<|
 rB i j k a λp c=>
 mP [9]<|
 Q p c)
 (mP [0,1]<|
 aP p0 λf=>
 mP [2,3]<|
 aH .pointer a (f.add 0) λl=>
 mP [4,5]<|
 aH (.int .i64) a (a1.add 3) λm=>
 mP [6]<|
 rC l m a λq d=>
 mP [7]<|
 Q q d))
def iv (p0:Option Addr) (H:PH) (Q:Bool->PH->Prop):Prop:=
 fN p0 H λn c H1=>
 aj H1 (row nW 152) λl k=>
 aV k l (b9 n) λb=>
 aO (mK 1 (λo (m:Unit)=>o 4=VB c) (λm d=>
 Q c d))
 λa=>
 aL c
 (aP p0 λg=>
 aH (.int .i64) b (g.add 1) λi=>
 fm p0 i b λj e=>
 aP j λh=>
 aV e h ([VI 0,VI 0,VI 0,VI 0,Sl.v Sl.nil,.bool false]) λf=>
 a () f)
 (a () b)
def kP (p0:Option Addr) (H:PH) (Q:qL->Bool->PH->Prop):Prop:=
 aj H (row nW 152) λa1 p=>
 fN p0 p λs o q=>
 aj q (row nW 152) λe r=>
 aV r e (b9 s) λf=>
 iv p0 f λn a=>
 aO (mK 1 (λt (j:Unit)=>t 2=VA a1/\t 4=VA e/\t 5=VB o) (λj b=>
 aT b9 b e 5 λk=>
 aV b a1 (b9 k) λc=>
 aT b9 c a1 5 λl=>
 Q l o c))
 λd=>
 aL n
 (aP p0 λh=>
 aH (.int .i64) a (h.add 1) λm=>
 aP p0 λi=>
 aV a (i.add 1) ([VI (IntKind.wrap .i64 (m+1))]) λg=>
 d () g)
 (d () a)
def pA (p0:Option Addr) (H:PH) (Q:Sl->Int->PH->Prop):Prop:=
 aP p0 λa1=>
 aH .pointer H (a1.add 1) λI=>
 fN I H λJ K F=>
 aj F (row nW 152) λu G=>
 aV G u (b9 J) λl=>
 bw (mL (λk (a:Addr×Bool)=>k 0=VP p0/\k 4=VA (a.1)/\k 5=VB a.2) (λa d c=>
 aL a.2
 (aT b9 d a.1 5 λw=>
 nI p0 w d λb e=>
 aO (mK 1 (λk (v:Unit)=>k 0=VP p0/\k 4=VA (a.1)/\k 6=VI b) (λv f=>
 aL (b != 0)
 (Q Sl.nil b f)
 (aP p0 λr=>
 aH .pointer f (r.add 1) λx=>
 kP x f λL M h=>
 aT b9 h a.1 5 λy=>
 aj h (row nW 152) λg m=>
 aV m g (b9 y) λi=>
 aP p0 λs=>
 aH .pointer i (s.add 1) λz=>
 fN z i λB C n=>
 aV n g (b9 B) λo=>
 c (g,C) o)))
 λj=>
 aL (b==1)
 (aP p0 λt=>
 aH .pointer e (t.add 1) λA=>
 iv A e λN p=>
 j () p)
 (j () e))
 (iM p0 d λD E q=>
 Q D E q)))
 (u,K) l
def jI (p0:Option Addr) (p1:Sl) (H:PH) (Q:Sl->Int->PH->Prop):Prop:=
 tB p1 H λL D H1=>
 aj H1 (row nE 54) λb K=>
 aV K b (bS L) λp=>
 aL (D != 0)
 (Q Sl.nil D p)
 (jz p0 p λj f=>
 aL (j != 0)
 (Q Sl.nil j f)
 (aT bS f b 8 λs=>
 lB p0 s f λA a=>
 aL A
 (Q Sl.nil 1 a)
 (aH (.int .i64) a (b.add 0) λt=>
 aL (t==9)
 (aH (.int .i64) a (b.add 1) λu=>
 mN p0 u a λB C k=>
 Q B C k)
 (mP [0,1]<|
 aH (.int .i64) a (b.add 1) λi=>
 mP [2,3]<|
 aP p0 λq=>
 mP [4,5]<|
 aH .pointer a (q.add 0) λv=>
 mP [6]<|
 eI v a λE c=>
 ay c (b.add 1) (VI i)<|
 mP [7,8,9]<|
 aL (i != E.2.1)
 (Q Sl.nil 8 c)
 (aT bS c b 8 λw=>
 By w c λF M l=>
 aj l (row nW 152) λh m=>
 aV m h (b9 F) λd=>
 mP [0,1]<|
 aP p0 λr=>
 mP [2,3]<|
 aH .pointer d (r.add 1) λx=>
 mP [4,5]<|
 aH (.int .i64) d (b.add 2) λy=>
 mP [6]<|
 aT b9 d h 5 λz=>
 mP [7]<|
 kO x y z d λe g=>
 mP [8]<|
 aL (e==0)
 (pA p0 g λG I n=>
 Q G I n)
 (aL (e==9)
 (iM p0 g λJ N o=>
 Q J e o)
 (Q Sl.nil e g)))))))
def lQ (p0:Option Addr) (p1:Sl) (H:PH) (Q:Sl->Int->PH->Prop):Prop:=
 sT p0 H λb H1=>
 jI b p1 H1 λc d a=>
 Q c d a
def fv (p0:Option Addr) (H:PH) (Q:zI->PH->Prop):Prop:=
 aj H (row lv 42) λa1 c=>
 fE p0 c λf d=>
 eI f d λg e=>
 aV e a1 (dB g) λa=>
 aT dB a a1 10 λb=>
 Q b a
def nJ (p0:Option Addr) (p1:Int) (H:PH) (Q:Eu->PH->Prop):Prop:=
 aj H (row [VI 0,VI 0] 34) λa1 k=>
 aP p0 λK=>
 aH .pointer k (K.add 4) λL=>
 rW L p1 k λM E b=>
 aL (!E)
 (fF 0 5 b λF j=>
 aV j a1 (dx F) λc=>
 aT dx c a1 2 λx=>
 Q x c)
 (aP p0 λq=>
 aH .pointer b (q.add 2) λy=>
 aL (Option.isNone y)
 (fF 0 3 b λG l=>
 aV l a1 (dx G) λd=>
 aT dx d a1 2 λz=>
 Q z d)
 (aP p0 λr=>
 aH .pointer b (r.add 2) λA=>
 lQ A M b λh i a=>
 aO (mK 1 (λN (w:Unit)=>N 0=VP p0/\N 4=VA a1/\N 8=VI i) (λw e=>
 aP p0 λs=>
 aH .pointer e (s.add 2) λB=>
 fv B e λI m=>
 fF I.2.2.2.1 i m λJ n=>
 aV n a1 (dx J) λf=>
 aT dx f a1 2 λC=>
 Q C f))
 λg=>
 aL (decide (0<(h.len:Int)))
 (aP p0 λt=>
 aH .pointer a (t.add 5) λD=>
 bZ a (row [Sl.v h] 50) 1 λu o=>
 qQ D u o λO p=>
 g () p)
 (g () a)))
def lR (p0:Sl) (H:PH) (Q:Sl->PH->Prop):Prop:=
 aL (Option.isNone p0.a)
 (Q Sl.nil H)
 (bZ H (row [] 152) 0 λd b=>
 fh b 152 5 56 nW d p0 λr5 c=>
 Q r5 c)
def pB (p0:Option Addr) (p1:Sl) (H:PH) (Q:Int->PH->Prop):Prop:=
 aL (Option.isNone p0)
 (Q 1 H)
 (tB p1 H λE A C=>
 aj C (row nE 54) λd D=>
 aV D d (bS E) λa=>
 aL (A != 0)
 (Q A a)
 (aH (.int .i64) a (d.add 0) λt=>
 aL (t != 8)
 (Q 1 a)
 (mP [0,1]<|
 aH (.int .i64) a (d.add 1) λu=>
 mP [2,3]<|
 aP p0 λk=>
 mP [4,5]<|
 aH (.int .i64) a (k.add 0) λw=>
 mP [6,7]<|
 aL (u != w)
 (Q 8 a)
 (mP [0,1]<|
 aH (.int .i64) a (d.add 2) λx=>
 mP [2,3]<|
 aP p0 λl=>
 mP [4,5]<|
 aH (.int .i64) a (l.add 3) λy=>
 mP [6,7]<|
 aL (decide (y<x))
 (Q 1 a)
 (mP [0,1]<|
 aP p0 λm=>
 mP [2,3]<|
 aH (.int .i64) a (m.add 5) λb=>
 mP [4,5]<|
 aH (.int .i64) a (d.add 6) λc=>
 mP [6,7]<|
 mP [0,1,2]<|
 aP p0 λn=>
 mP [3,4]<|
 aH Sl.v a (n.add 6) λh=>
 mP [5,6,7]<|
 aP p0 λo=>
 mP [8,9]<|
 aH (.int .i64) a (o.add 5) λz=>
 mP [10,11]<|
 kv h 5 (IntKind.wrap .i64 ((if b<c then c else b)-z)) (h.len:Int) λs=>
 mP [12]<|
 lR s a λB i=>
 mP [13]<|
 aP p0 λp=>
 mP [14,15]<|
 aV i (p.add 6) ([Sl.v B]) λf=>
 mP [0,1,2,3,4,5]<|
 aH (.int .i64) f (d.add 2) λe=>
 mP [6,7]<|
 aP p0 λq=>
 mP [8,9]<|
 aV f (q.add 5) ([VI (if b<c then c else b)]) λg=>
 ay g (d.add 2) (VI e)<|
 mP [10]<|
 aP p0 λr=>
 mP [11,12]<|
 aV g (r.add 4) ([VI (if(if b<c then c else b)<e then e else(if b<c then c else b))]) λj=>
 Q 0 j)))))
def sG (p0:Option Addr) (H:PH) (Q:Int->PH->Prop):Prop:=
 aL (Option.isNone p0)
 (Q 0 H)
 (aP p0 λa=>
 aH (.int .i64) H (a.add 4) λb=>
 Q b H)
def sH (p0:Option Addr) (p1:Int) (H:PH) (Q:Eu->PH->Prop):Prop:=
 aj H (row [VI 0,VI 0] 34) λa1 f=>
 aP p0 λt=>
 aH .pointer f (t.add 5) λu=>
 rW u p1 f λv o d=>
 aL (!o)
 (fF 0 5 d λp e=>
 aV e a1 (dx p) λa=>
 aT dx a a1 2 λk=>
 Q k a)
 (aP p0 λi=>
 aH .pointer d (i.add 3) λl=>
 pB l v d λq b=>
 aP p0 λj=>
 aH .pointer b (j.add 3) λm=>
 sG m b λr g=>
 fF r q g λs h=>
 aV h a1 (dx s) λc=>
 aT dx c a1 2 λn=>
 Q n c)
def fR (p0:Option Addr) (p1:qL) (H:PH) (Q:Eu->Bool->PH->Prop):Prop:=
 aj H (row (b9 p1) 38) λa1 H2=>
 aj H2 (row [VI 0,VI 0] 34) λb a=>
 aH (.int .i64) a (a1.add 0) λc=>
 aL (c==1)
 (mP [0,1]<|
 aP p0 λn=>
 mP [2,3]<|
 aH .pointer a (n.add 3) λp=>
 mP [4,5]<|
 aH (.int .i64) a (a1.add 1) λq=>
 mP [6,7]<|
 aH (.int .i64) a (a1.add 3) λD=>
 mP [8]<|
 wC D a λP d=>
 ay d (a1.add 1) (VI q)<|
 ay d (n.add 3) (.pointer p)<|
 mP [9]<|
 oP p q P d λR s=>
 mP [10]<|
 fF 0 R s λS t=>
 mP [11]<|
 aV t b (dx S) λg=>
 mP [12]<|
 aT dx g b 2 λE=>
 Q E true g)
 (aL (c==2)
 (False)
 (aL (c==3)
 (aP p0 λB=>
 aH .pointer a (B.add 3) λF=>
 ow F a λT u=>
 fF 0 T u λU v=>
 aV v b (dx U) λh=>
 aT dx h b 2 λG=>
 Q G true h)
 (aL (c==4)
 (mP [0,1]<|
 aP p0 λo=>
 mP [2,3]<|
 aH .pointer a (o.add 4) λr=>
 mP [4,5]<|
 aP p0 λC=>
 mP [6,7]<|
 aH .pointer a (C.add 3) λI=>
 mP [8]<|
 pv I a λV i=>
 ay i (o.add 4) (.pointer r)<|
 mP [9]<|
 qQ r V i λX w=>
 mP [10]<|
 fF X 0 w λY x=>
 mP [11]<|
 aV x b (dx Y) λj=>
 mP [12]<|
 aT dx j b 2 λJ=>
 Q J true j)
 (aL (c==5)
 (False)
 (aL (c==6)
 (aH (.int .i64) a (a1.add 1) λK=>
 nJ p0 K a λZ y=>
 aV y b (dx Z) λk=>
 aT dx k b 2 λL=>
 Q L true k)
 (aL (c==19)
 (aH (.int .i64) a (a1.add 1) λM=>
 sH p0 M a λaa z=>
 aV z b (dx aa) λl=>
 aT dx l b 2 λN=>
 Q N true l)
 (aO (mK 1 (λρ (f:Bool)=>ρ 0=VP p0/\ρ 3=VA a1/\ρ 4=VA b/\ρ 80=VB f) (λf A=>
 aL f
 (False)
 (aV A b ([VI 0,VI 0]) λm=>
 aT dx m b 2 λO=>
 Q O false m)))
 λe=>
 aL (c==7)
 (e (c==7) a)
 (aL (c==8)
 (e (c==8) a)
 (e (c==9) a)))))))))
def DF (p0:Option Addr) (H:PH) (Q:Bool->PH->Prop):Prop:=
 aO (mK 4 (λg (s2:Bool)=>g 9=VB s2) (λs2 b=>
 Q s2 b))
 λa=>
 aL (Option.isNone p0)
 (a true H)
 (oA p0 H λe c=>
 iL e c λf d=>
 a f d)
def sU (p0:Option Addr) (H:PH) (Q:iV->PH->Prop):Prop:=
 aj H (row gr 185) λa1 b=>
 aL (Option.isNone p0)
 (aV b a1 (gr) λd=>
 aT ag d a1 5 λi=>
 Q i d)
 (aP p0 λh=>
 aH .pointer b (h.add 4) λe=>
 mv e b λg c=>
 aV c a1 (ag g) λa=>
 aT ag a a1 5 λf=>
 Q f a)
def qS {γ:Type} (c0:Addr) (Y:List Value->γ->PH->(Nat->γ->PH->Prop)->Prop) (g:γ) (H:PH) (Q:Nat->γ->PH->Prop):Prop:=
 aH .pointer H c0 λo=>
 aL (Option.isNone o)
 (Q (0,g).1 (0,g).2 H)
 (aH .pointer H c0 λp=>
 aP p λn=>
 aH Sl.v H (n.add 1) λq=>
 bw (λ(cr:Int×(Nat×γ)) (a:PH) (c:(Int×(Nat×γ))->PH->Prop)=>
 aL (decide (cr.1<(q.len:Int)))
 (aH .pointer a c0 λk=>
 aP k λi=>
 aH Sl.v a (i.add 1) λl=>
 bX l 2 cr.1 λj=>
 aH (.int .i64) a (j.add 0) λm=>
 aO (λ(b:Bool×(Nat×γ)) (d:PH)=>
 aL b.1
 (Q b.2.1 b.2.2 d)
 (c (IntKind.wrap .i64 (cr.1+1),b.2) d))
 λe=>
 aL (m==2)
 (uO Y cr.2 [VI cr.1] a λf h=>
 e (!(f.1==0),f) h)
 (e (false,cr.2) a))
 (Q cr.2.1 cr.2.2 a))
 (0,(0,g)) H)
def tC (p0:Option Addr) (H:PH) (Q:Value->PH->Prop):Prop:=
 aj H (row [.pointer p0] 73) λa1 a=>
 Q (.func (.func 266) #[] #[.pointer (some a1)]) a
def rD (p0:Option Addr) (p1:Int) (H:PH) (Q:Int->PH->Prop):Prop:=
 iP p0 p1 H λe H1=>
 aL (!e)
 (Q 0 H1)
 (aP p0 λb=>
 aH Sl.v H1 (b.add 2) λd=>
 bX d 1 p1 λc=>
 aH (.int .i64) H1 c λa=>
 Q a H1)
def tn (p0:Option Addr) (H:PH) (Q:Int->PH->Prop):Prop:=
 aL (Option.isNone p0)
 (Q 0 H)
 (aP p0 λa=>
 aH (.int .i64) H ((a.add 0).add 2) λb=>
 Q (IntKind.wrap .i64 (Int.tdiv (IntKind.wrap .i64 (b- 2)) 2)) H)
def mo (p0:Int) (p1:Int) (p2:Int) (H:PH) (Q:Bool->PH->Prop):Prop:=
 aO (mK 4 (λc (s2:Bool)=>c 14=VB s2) (λs2 b=>
 Q s2 b))
 λa=>
 aL (decide (p1<=p0))
 (a (decide (p0<=p2)) H)
 (a false H)
def qA (p0:Option Addr) (p1:Int) (H:PH) (Q:Int->PH->Prop):Prop:=
 iP p0 p1 H λe H1=>
 aL (!e)
 (Q 0 H1)
 (aP p0 λb=>
 aH Sl.v H1 (b.add 1) λd=>
 bX d 2 p1 λc=>
 aH (.int .i64) H1 (c.add 1) λa=>
 Q a H1)
def yZ (p0:Int) (p1:Int) (H:PH) (Q:Int->PH->Prop):Prop:=
 aL (decide (p0<=p1))
 (Q 0 H)
 (Q (if 2147483647<(IntKind.wrap .i64 (p0-p1)) then 2147483647 else(IntKind.wrap .i64 (p0-p1))) H)
def wD (p0:Int) (p1:Int) (p2:Int) (H:PH) (Q:Int->PH->Prop):Prop:=
 mo p2 1 1000 H λk H1=>
 aO (mK 5 (λa (s4:Bool)=>a 0=VI p0/\a 1=VI p1/\a 2=VI p2/\a 15=VB s4) (λs4 g=>
 aO (mK 4 (λa (d:Bool)=>a 0=VI p0/\a 1=VI p1/\a 2=VI p2/\a 20=VB d) (λd b=>
 aL d
 (Q 0 b)
 (Ar (IntKind.wrap .i64 (p2+p0))<|
 Q (IntKind.wrap .i64 (Int.tdiv (IntKind.wrap .i64 ((IntKind.wrap .i64 (p2-p0))*p1)) (IntKind.wrap .i64 (p2+p0)))) b)))
 λc=>
 aL s4
 (c true g)
 (mo p1 0 2147483647 g λi e=>
 c (!i) e)))
 λh=>
 aL (!k)
 (h true H1)
 (mo p0 0 p2 H1 λj f=>
 h (!j) f)
def uu (p0:yQ) (p1:yQ) (H:PH) (Q:Bool->PH->Prop):Prop:=
 aj H (row (fZ p0) 259) λa1 B=>
 aj B (row (fZ p1) 259) λb a=>
 iH 3 a1 1 0 λC=>
 aH (.int .i64) a C λD=>
 iH 3 b 1 0 λk=>
 aH (.int .i64) a k λt=>
 aL (D != t)
 (iH 3 a1 1 0 λl=>
 aH (.int .i64) a l λu=>
 iH 3 b 1 0 λm=>
 aH (.int .i64) a m λv=>
 Q (decide (v<u)) a)
 (iH 3 a1 1 1 λn=>
 aH (.int .i64) a n λg=>
 iH 3 b 1 1 λo=>
 aH (.int .i64) a o λh=>
 aO (mK 13 (λA (c:Bool)=>A 33=VB c) (λc i=>
 Q c i))
 λe=>
 aL (decide (g<h))
 (e true a)
 (iH 3 a1 1 1 λp=>
 aH (.int .i64) a p λw=>
 iH 3 b 1 1 λq=>
 aH (.int .i64) a q λx=>
 aO (mK 6 (λA (d:Bool)=>A 20=VB (decide (g<h))/\A 32=VB d) (λd j=>
 e d j))
 λf=>
 aL (w==x)
 (iH 3 a1 1 2 λr=>
 aH (.int .i64) a r λy=>
 iH 3 b 1 2 λs=>
 aH (.int .i64) a s λz=>
 f (decide (y<z)) a)
 (f false a)))
def xO (p0:Option Addr) (p1:Option Addr) (p2:Int) (H:PH) (Q:Int->Bool->PH->Prop):Prop:=
 aj H (row [.pointer p0] 77) λa1 H2=>
 aj H2 (row [.pointer p1] 73) λm H5=>
 aj H5 (row [VI p2] 3) λA H8=>
 aj H8 (row Dy 259) λb F=>
 aj F (row [.bool false] 4) λa G=>
 aV G a ([.bool false]) λh=>
 aH .pointer h a1 λT=>
 aO (mK 3 (λg (n:Bool)=>g 3=VA a1/\g 4=VA m/\g 5=VA A/\g 8=VA b/\g 9=VA a/\g 18=VB n) (λn j=>
 aL n
 (Q 0 false j)
 (aH .pointer j m λU=>
 tC U j λad I=>
 iX prog ad (λ(B:List Value) (an:Unit) (s:PH) (q:Nat->Unit->PH->Prop)=>
 ∃(i:Int),B=[VI i]/\
 aH .pointer s m λV=>
 rD V i s λr t=>
 aH .pointer t a1 λX=>
 tn X t λae J=>
 mo r 1 ae J λaf c=>
 aL (!af)
 (q 0 () c)
 (aO (mK 1 (λg (e:Addr)=>g 8=VA b/\g 9=VA a/\g 12=VA e) (λe d=>
 aH .bool d a λY=>
 aO (mK 4 (λg (o:Bool)=>g 8=VA b/\g 9=VA a/\g 12=VA e/\g 50=VB o) (λo k=>
 aL o
 (aT fZ k e 3 λZ=>
 aV k b (fZ Z) λK=>
 aV K a ([.bool true]) λL=>
 q 0 () L)
 (q 0 () k)))
 λx=>
 aL (!Y)
 (x true d)
 (aT fZ d e 3 λaa=>
 aT fZ d b 3 λab=>
 uu aa ab d λag M=>
 x ag M)))
 λS=>
 mP [0,1]<|
 aH (.int .i64) c A λy=>
 mP [2]<|
 aH .pointer c m λac=>
 mP [3,6]<|
 aH .pointer c a1 λp=>
 mV [11,12] 4 [4,14]<|
 qA ac i c λah l=>
 ay l a1 (.pointer p)<|
 ay l A (VI y)<|
 mV [] 5 [5,14]<|
 yZ y ah l λai u=>
 ay u a1 (.pointer p)<|
 mV [] 7 [7,14]<|
 dF p u λak N=>
 mV [8,9] 10 [10,14]<|
 wD r ai (IntKind.wrap .i64 (ak.2.2- 2)) N λal O=>
 mP [13,14]<|
 aj O (row Dy 259) λv P=>
 mP [15]<|
 aV P v ([VI al,VI r,VI i]) λR=>
 S v R)) () I λ_ am f=>
 mP [0]<|
 iH 3 b 1 2 λz=>
 mP [1]<|
 aH (.int .i64) f z λC=>
 mP [2]<|
 aH .bool f a λD=>
 mP [3,4]<|
 Q C D f)))
 λw=>
 aL (Option.isNone T)
 (w true h)
 (aH .pointer h m λE=>
 w (Option.isNone E) h)
def AZ (p0:Option Addr) (H:PH) (Q:Bool->PH->Prop):Prop:=
 nv p0 H λk H1=>
 kf p0 H1 λl i=>
 sU p0 i λm j=>
 xO k l m.2.2.1 j λo n f=>
 aO (mK 5 (λp (a:Bool)=>p 22=VB a) (λa c=>
 Q a c))
 λb=>
 aL n
 (kf p0 f λg d=>
 lP g d λh e=>
 b (decide (h<=2)) e)
 (b false f)
def Aa (p0:Option Addr) (H:PH) (Q:Int->Int->PH->Prop):Prop:=
 DF p0 H λm H1=>
 aL m
 (Q 0 3 H1)
 (je p0 H1 λn o l=>
 bw (mL (λc (a:Int×Int×Sl×Int)=>c 0=VP p0/\c 2=VI a.1/\c 3=VI a.2.1/\c 4=Sl.v a.2.2.1/\c 5=VI a.2.2.2) (λa d e=>
 aL (a.2.1==0)
 (aO (mB (λc (b:Int×Int×Sl)=>c 0=VP p0/\c 2=VI b.1/\c 3=VI b.2.1/\c 4=Sl.v b.2.2/\c 5=VI a.2.2.2) (λb h=>
 e (b.1,b.2.1,b.2.2,IntKind.wrap .i64 (a.2.2.2+1)) h))
 λp=>
 aO (mK 4 (λc (f:Bool)=>c 0=VP p0/\c 2=VI (IntKind.wrap .i64 (a.1+(a.2.2.1.len:Int)))/\c 4=Sl.v a.2.2.1/\c 5=VI a.2.2.2/\c 27=VB f) (λf i=>
 aL f
 (Q (IntKind.wrap .i64 (a.1+(a.2.2.1.len:Int))) 0 i)
 (False)))
 λg=>
 aL (a.2.2.2==64)
 (g true d)
 (AZ p0 d λk j=>
 g (!k) j))
 (Q 0 a.2.1 d)))
 (0,o,n,0) l)
def mw (p0:Option Addr) (H:PH) (Q:Int->Int->PH->Prop):Prop:=
 fE p0 H λb H1=>
 Aa b H1 λc d a=>
 Q c d a
def iO (p0:Option Addr) (p1:Int) (H:PH) (Q:Int->PH->Prop):Prop:=
 fE p0 H λb H1=>
 kh b p1 2 H1 λc a=>
 Q c a
def dz (p0:Sl) (H:PH) (Q:Sl->PH->Prop):Prop:=
 aL (Option.isNone p0.a)
 (Q Sl.nil H)
 (bZ H (row [] 202) 0 λd b=>
 fh b 202 64 64 (List.replicate 64 (.int .u8 0)) d p0 λr5 c=>
 Q r5 c)
def kQ (p0:Sl) (H:PH) (Q:Sl->PH->Prop):Prop:=
 aL (Option.isNone p0.a)
 (Q Sl.nil H)
 (bZ H (row [] 4) 0 λd b=>
 fh b 4 1 1 [.bool false] d p0 λr5 c=>
 Q r5 c)
def oD (p0:Option Addr) (p1:Sl) (H:PH) (Q:Option Addr->PH->Prop):Prop:=
 aL (Option.isNone p0)
 (Q none H)
 (mP [0,1]<|
 aP p0 λX=>
 mP [2,3]<|
 aH Sl.v H (X.add 0) λY=>
 mP [5,6]<|
 aP p0 λD=>
 mP [7,8]<|
 aH Sl.v H (D.add 3) λS=>
 mP [4]<|
 dz Y H λT o=>
 ay o (D.add 3) (Sl.v S)<|
 mP [9]<|
 kQ S o λU s=>
 mP [10,11]<|
 aj s (row [Sl.v T,Sl.v Sl.nil,Sl.v Sl.nil,Sl.v U,VI (-1),VI 0,.bool false] 129) λd p=>
 mP [12]<|
 aP p0 λA=>
 aH Sl.v p (A.add 2) λb=>
 bw (mL (λc (a:Bool×Int)=>c 1=Sl.v p1/\c 5=VA d/\c 6=VB a.1/\c 27=Sl.v b/\c 28=VI (b.len:Int)/\c 29=VI a.2) (λa h j=>
 aL (decide (a.2<(b.len:Int)))
 (aO (mB (λc (m:Bool)=>c 1=Sl.v p1/\c 5=VA d/\c 6=VB m/\c 27=Sl.v b/\c 28=VI (b.len:Int)/\c 29=VI a.2) (λm t=>
 j (m,IntKind.wrap .i64 (a.2+1)) t))
 λl=>
 bX b 65 a.2 λB=>
 C6 h B 65 λJ=>
 aj h (row bp 205) λe u=>
 Ep u e 65 J λk=>
 aO (mK 1 (λc (g:Int)=>c 1=Sl.v p1/\c 5=VA d/\c 6=VB a.1/\c 8=VA e/\c 9=VI g/\c 27=Sl.v b/\c 28=VI (b.len:Int)/\c 29=VI a.2) (λg f=>
 aL ((Int.tmod g 3)==1)
 (mP [0,1,2,3]<|
 aH Sl.v f (d.add 0) λK=>
 mP [4,5]<|
 aH (.int .i64) f (e.add 0) λL=>
 mP [6,7]<|
 C6 f (e.add 1) 64 λM=>
 mP [8]<|
 bX K 64 L λC=>
 mP [9]<|
 Ep f C 64 M λw=>
 l a.1 w)
 (aO (mK 3 (λc (n:Bool)=>c 1=Sl.v p1/\c 5=VA d/\c 6=VB a.1/\c 8=VA e/\c 9=VI g/\c 27=Sl.v b/\c 28=VI (b.len:Int)/\c 29=VI a.2/\c 65=VB n) (λn i=>
 aL n
 (mP [0,1,2,3]<|
 aH Sl.v i (d.add 0) λN=>
 mP [4,5]<|
 aH (.int .i64) i (e.add 0) λO=>
 mP [6]<|
 bX N 64 O λE=>
 mP [7,8,9]<|
 Bm 64 E 1 0 (IntKind.wrap .i64 (Int.tdiv g 3)) λG=>
 mP [10,11]<|
 Bm 64 (e.add 1) 1 0 64 λI=>
 mP [12]<|
 nC i 1 G I λZ x=>
 l true x)
 (l a.1 i)))
 λr=>
 aL ((Int.tmod g 3)==2)
 (r (!a.1) f)
 (r false f))))
 λq=>
 aL (decide (a.2<(p1.len:Int)))
 (bX p1 1 a.2 λF=>
 aH (.int .i64) k F λP=>
 q (Int.tmod (IntKind.wrap .i64 ((Int.tmod P 192)+192)) 192) k)
 (q 0 k))
 (aH Sl.v h (d.add 0) λR=>
 dz R h λV y=>
 aV y (d.add 1) ([Sl.v V]) λz=>
 Q (some d) z)))
 (false,0) p)
def mU (p0:Option Addr) (p1:qL) (H:PH) (Q:Eu->PH->Prop):Prop:=
 aj H (row (b9 p1) 38) λa1 B=>
 aj B (row [VI 0,VI 0] 34) λf e=>
 mP [0,1,2]<|
 aP p0 λC=>
 mP [3,4]<|
 aH .pointer e (C.add 1) λD=>
 mP [5,6]<|
 aH Sl.v e (a1.add 4) λr=>
 mP [7]<|
 oD D r e λx g=>
 mP [8]<|
 aP p0 λl=>
 mP [9,10]<|
 aV g (l.add 1) ([.pointer x]) λb=>
 aH (.int .i64) b (a1.add 2) λs=>
 aO (mK 1 (λE (q:Unit)=>E 0=VP p0/\E 4=VA f) (λq a=>
 mP [0,1]<|
 aP p0 λm=>
 mP [2,3]<|
 aH .pointer a (m.add 1) λt=>
 mP [4,5]<|
 aP p0 λn=>
 mP [6,7]<|
 aH (.int .i64) a (n.add 0) λu=>
 mP [8]<|
 wB t u a λd y h=>
 mP [9,10,11,12,13]<|
 aP p0 λo=>
 aV h (o.add 2) ([.pointer d]) λi=>
 fv d i λz j=>
 fF z.2.2.1 y j λA k=>
 aV k f (dx A) λc=>
 aT dx c f 2 λw=>
 Q w c))
 λp=>
 aL (decide (0<s))
 (False)
 (p () b)
def iw (p0:Option Addr) (p1:qL) (H:PH) (Q:Eu->PH->Prop):Prop:=
 aj H (row (b9 p1) 38) λa1 P=>
 aj P (row [VI 0,VI 0] 34) λc j=>
 aL (Option.isNone p0)
 (aV j c ([VI 3,VI 0]) λr=>
 aT dx r c 2 λu=>
 Q u r)
 (aT b9 j a1 5 λv=>
 fR p0 v j λG I k=>
 aj k (row [VI 0,VI 0] 34) λi l=>
 aV l i (dx G) λa=>
 aL I
 (aT dx a i 2 λw=>
 aV a c (dx w) λd=>
 aT dx d c 2 λx=>
 Q x d)
 (aH (.int .i64) a (a1.add 0) λb=>
 aL (b==10)
 (False)
 (aL (b==11)
 (False)
 (aL (b==12)
 (aP p0 λs=>
 aH .pointer a (s.add 2) λy=>
 mw y a λJ K m=>
 fF J K m λL n=>
 aV n c (dx L) λe=>
 aT dx e c 2 λz=>
 Q z e)
 (aL (b==13)
 (mP [0,1]<|
 aP p0 λt=>
 mP [2,3]<|
 aH .pointer a (t.add 2) λA=>
 mP [4,5]<|
 aH (.int .i64) a (a1.add 1) λB=>
 mP [6]<|
 iO A B a λM o=>
 mP [7]<|
 fF 0 M o λN p=>
 mP [8]<|
 aV p c (dx N) λf=>
 aT dx f c 2 λC=>
 Q C f)
 (aL (b==14)
 (False)
 (aL (b==15)
 (False)
 (aL (b==16)
 (False)
 (aL (b==17)
 (False)
 (aL (b==18)
 (aT b9 a a1 5 λD=>
 mU p0 D a λO q=>
 aV q c (dx O) λg=>
 aT dx g c 2 λE=>
 Q E g)
 (aV a c ([VI 1,VI 0]) λh=>
 aT dx h c 2 λF=>
 Q F h)))))))))))
def oR (p0:Option Addr) (p1:Sl) (H:PH) (Q:Sl->PH->Prop):Prop:=
 bw (mL (λc (s1:Sl×Int)=>c 0=VP p0/\c 4=Sl.v s1.1/\c 7=Sl.v p1/\c 8=VI (p1.len:Int)/\c 9=VI s1.2) (λs1 e b=>
 aL (decide (s1.2<(p1.len:Int)))
 (aO (mB (λc (f:Sl)=>c 0=VP p0/\c 4=Sl.v f/\c 7=Sl.v p1/\c 8=VI (p1.len:Int)/\c 9=VI s1.2) (λf r=>
 b (f,IntKind.wrap .i64 (s1.2+1)) r))
 λl=>
 bX p1 5 s1.2 λk=>
 aT b9 e k 5 λo=>
 aj e (row nW 38) λd g=>
 aV g d (b9 o) λa=>
 aL (!(Option.isNone p0))
 (aT b9 a d 5 λp=>
 iw p0 p a λq h=>
 bZ h (row (dx q) 34) 1 λm i=>
 fh i 34 2 16 [VI 0,VI 0] s1.1 m λn j=>
 l n j)
 (l s1.1 a))
 (Q s1.1 e)))
 (Sl.nil,0) H
def sV (p0:Option Addr) (p1:Int) (H:PH) (Q:Int->Bool->PH->Prop):Prop:=
 cv p0 false H λb H1=>
 gL b p1 H1 λc d a=>
 Q c d a
def tD (p0:Option Addr) (p1:Int) (H:PH) (Q:Sl->Int->PH->Prop):Prop:=
 aL (Option.isNone p0)
 (Q Sl.nil 1 H)
 (aP p0 λq=>
 aH Sl.v H (q.add 9) λd=>
 bw (mL (λp (a:Int)=>p 0=VP p0/\p 1=VI p1/\p 13=Sl.v d/\p 14=VI (d.len:Int)/\p 15=VI a) (λa c b=>
 aL (decide (a<(d.len:Int)))
 (bX d 1 a λh=>
 aH Sl.v c h λj=>
 lG p0 c λl e=>
 aL (p1==(IntKind.wrap .i64 (l+a)))
 (cC j e λm f=>
 Q m 0 f)
 (b (IntKind.wrap .i64 (a+1)) e))
 (aP p0 λi=>
 aH .pointer c (i.add 0) λk=>
 gm k p1 c λn o g=>
 Q n o g)))
 0 H)
def uG (p0:Option Addr) (p1:Int) (H:PH) (Q:Sl->Int->PH->Prop):Prop:=
 aL (p1==0)
 (zA H 5 1 [.int .u8 0] 64 64 λf d=>
 Q f 0 d)
 (aP p0 λe=>
 aH .pointer H (e.add 4) λg=>
 tD g p1 H λb c a=>
 Q b c a)
def lS (p0:Option Addr) (p1:Int) (H:PH) (Q:Sl->Int->PH->Prop):Prop:=
 mO p0 p1 1 H λj H1=>
 ir p0 0 j H1 λg a=>
 aL (g != 0)
 (Q Sl.nil g a)
 (aP p0 λh=>
 aH .pointer a (h.add 3) λi=>
 sV i p1 a λd k b=>
 uG p0 d b λe f c=>
 Q e f c)
def rE (p0:Option Addr) (p1:Int) (H:PH) (Q:Sl->Int->PH->Prop):Prop:=
 fE p0 H λi H1=>
 aO (mK 5 (λk (s4:Bool)=>k 0=VP p0/\k 1=VI p1/\k 16=VB s4) (λs4 c=>
 aL s4
 (Q Sl.nil 7 c)
 (fE p0 c λe j=>
 lS e p1 j λf g a=>
 Q f g a)))
 λd=>
 aL (!(Option.isNone i))
 (eI i H1 λh b=>
 d (h.1 != 2) b)
 (d false H1)
def my (p0:Int) (H:PH) (Q:Sl->PH->Prop):Prop:=
 zA H 5 1 [.int .u8 0] 64 64 λr1 i=>
 bw (mL (λj (s5:Int)=>j 0=VI p0/\j 3=Sl.v r1/\j 4=VI s5) (λs5 e a=>
 aL (decide (s5< 64))
 (gq p0 256 e λg b=>
 gq (IntKind.wrap .i64 (g+s5)) 256 b λh c=>
 bX r1 1 s5 λf=>
 aV c f ([.int .u8 (IntKind.wrap .u8 h)]) λd=>
 a (IntKind.wrap .i64 (s5+1)) d)
 (Q r1 e)))
 0 i
def uH (p0:Sl) (p1:Sl) (H:PH) (Q:Bool->PH->Prop):Prop:=
 aL ((p0.len:Int) != (p1.len:Int))
 (Q false H)
 (bw (mL (λg (s2:Int)=>g 0=Sl.v p0/\g 1=Sl.v p1/\g 5=VI s2) (λs2 a b=>
 aL (decide (s2<(p0.len:Int)))
 (mP [0,1,2]<|
 bX p0 1 s2 λe=>
 mP [3]<|
 aH (.int .u8) a e λf=>
 mP [4,5,6]<|
 bX p1 1 s2 λc=>
 mP [7]<|
 aH (.int .u8) a c λd=>
 mP [8]<|
 aL (f != d)
 (Q false a)
 (b (IntKind.wrap .i64 (s2+1)) a))
 (Q true a)))
 0 H)
def mD (p0:Sl) (p1:Sl) (H:PH) (Q:Bool->PH->Prop):Prop:=
 uH p0 p1 H λa H1=>
 Q a H1
def oE (H:PH) (Q:Bool->PH->Prop):Prop:=
 nj 3 H λy2 H1=>
 nw y2 4 H1 λy4 y5 K=>
 aL (!y5)
 (Q false K)
 (bZ K (row [VI 1,VI 2,VI 0,VI 7,Sl.v Sl.nil,VI 3,VI 0,VI 0,VI 0,Sl.v Sl.nil,VI 1,VI 2,VI 0,VI 8,Sl.v Sl.nil,VI 4,VI 0,VI 0,VI 0,Sl.v Sl.nil,VI 6,VI 0,VI 0,VI 0,Sl.v Sl.nil,VI 6,VI 0,VI 0,VI 0,Sl.v Sl.nil,VI 6,VI 0,VI 0,VI 0,Sl.v Sl.nil,VI 12,VI 0,VI 0,VI 0,Sl.v Sl.nil,VI 18,VI 0,VI 0,VI 0,Sl.v Sl.nil,VI 13,VI 9,VI 0,VI 0,Sl.v Sl.nil] 38) 10 λr7 H8=>
 oR y4 r7 H8 λc J=>
 ff y4 J λa s=>
 aO (mK 3 (λb (j:Bool)=>b 3=Sl.v c/\b 4=VP a/\b 35=VB j) (λj t=>
 aL j
 (Q false t)
 (rE a 2 t λd e f=>
 bX c 2 6 λR=>
 aH (.int .i64) f (R.add 0) λX=>
 aO (mK 6 (λb (k:Bool)=>b 3=Sl.v c/\b 4=VP a/\b 5=Sl.v d/\b 6=VI e/\b 52=VB k) (λk g=>
 aO (mK 6 (λb (l:Bool)=>b 3=Sl.v c/\b 4=VP a/\b 5=Sl.v d/\b 6=VI e/\b 59=VB l) (λl h=>
 aO (mK 6 (λb (m:Bool)=>b 3=Sl.v c/\b 4=VP a/\b 5=Sl.v d/\b 6=VI e/\b 66=VB m) (λm i=>
 aO (mK 6 (λb (n:Bool)=>b 4=VP a/\b 5=Sl.v d/\b 6=VI e/\b 73=VB n) (λn u=>
 aO (mK 3 (λb (o:Bool)=>b 4=VP a/\b 5=Sl.v d/\b 77=VB o) (λo w=>
 aO (mK 4 (λb (p:Bool)=>b 4=VP a/\b 82=VB p) (λp x=>
 aO (mK 5 (λb (q:Bool)=>b 4=VP a/\b 88=VB q) (λq y=>
 aO (mK 5 (λb (r:Bool)=>b 94=VB r) (λr L=>
 Q r L))
 λI=>
 aL q
 (fv a y λac M=>
 I (ac.1==2) M)
 (I false y)))
 λG=>
 aL p
 (fv a x λad N=>
 G (ad.2.1==9) N)
 (G false x)))
 λF=>
 aL o
 (my 7 w λae O=>
 mD d ae O λaf P=>
 F af P)
 (F false w)))
 λE=>
 aL n
 (E (e==0) u)
 (E false u)))
 λD=>
 aL m
 (bX c 2 9 λS=>
 aH (.int .i64) i (S.add 0) λY=>
 D (Y==0) i)
 (D false i)))
 λC=>
 aL l
 (bX c 2 8 λT=>
 aH (.int .i64) h (T.add 1) λZ=>
 C (Z==1) h)
 (C false h)))
 λB=>
 aL k
 (bX c 2 8 λU=>
 aH (.int .i64) g (U.add 0) λaa=>
 B (aa==0) g)
 (B false g)))
 λA=>
 aL (X==0)
 (bX c 2 6 λV=>
 aH (.int .i64) f (V.add 1) λab=>
 A (ab==3) f)
 (A false f))))
 λz=>
 aL ((c.len:Int) != 10)
 (z true s)
 (z (Option.isNone a) s))
def mE (p0:Option Addr) (p1:Int) (H:PH) (Q:Sl->Bool->PH->Prop):Prop:=
 bw (mL (λb (s1:Sl×Int)=>b 0=VP p0/\b 1=VI p1/\b 6=Sl.v s1.1/\b 7=VI s1.2) (λs1 h a=>
 aL (decide (s1.2<p1))
 (lS p0 s1.2 h λe l i=>
 aO (mK 4 (λb (cr:Bool)=>b 0=VP p0/\b 1=VI p1/\b 6=Sl.v s1.1/\b 7=VI s1.2/\b 8=Sl.v e/\b 27=VB cr) (λcr c=>
 aL cr
 (Q Sl.nil false c)
 (bZ c (row [Sl.v e] 50) 1 λj f=>
 fh f 50 1 24 [.slice none 0 0] s1.1 j λk g=>
 a (k,IntKind.wrap .i64 (s1.2+1)) g)))
 λd=>
 aL (l != 0)
 (d true i)
 (d ((e.len:Int) != 64) i))
 (Q s1.1 true h)))
 (Sl.nil,0) H
def dU (p0:Int) (p1:Int) (p2:Int) (H:PH) (Q:Bool->PH->Prop):Prop:=
 aO (mK 4 (λc (s2:Bool)=>c 14=VB s2) (λs2 b=>
 Q s2 b))
 λa=>
 aL (decide (p1<=p0))
 (a (decide (p0<=p2)) H)
 (a false H)
def mW (p0:jk) (H:PH) (Q:Bool->PH->Prop):Prop:=
 aj H (row (bS p0) 54) λa1 H2=>
 aH (.int .i64) H2 (a1.add 1) λx4=>
 dU x4 1 2147483647 H2 λy7 H6=>
 aL (!y7)
 (Q false H6)
 (aH (.int .i64) H6 (a1.add 2) λx9=>
 dU x9 1 2147483647 H6 λap aq=>
 aH (.int .i64) aq (a1.add 3) λbf=>
 dU bf 0 63 aq λaF b=>
 aH (.int .i64) b (a1.add 0) λd=>
 aL (d==1)
 (aO (mK 2 (λa (ac:Bool)=>a 1=VA a1/\a 22=VB ac) (λac E=>
 aO (mK 4 (λa (ad:Bool)=>a 1=VA a1/\a 27=VB ad) (λad F=>
 aO (mK 4 (λa (ae:Bool)=>a 1=VA a1/\a 32=VB ae) (λae G=>
 aO (mK 4 (λa (af:Bool)=>a 1=VA a1/\a 37=VB af) (λaf I=>
 aO (mK 5 (λa (ag:Bool)=>a 43=VB ag) (λag bc=>
 Q ag bc))
 λax=>
 aL af
 (aH Sl.v I (a1.add 7) λbg=>
 ax ((bg.len:Int)==64) I)
 (ax false I)))
 λaw=>
 aL ae
 (aH (.int .i64) G (a1.add 6) λbh=>
 aw (bh==0) G)
 (aw false G)))
 λav=>
 aL ad
 (aH (.int .i64) F (a1.add 5) λbi=>
 av (bi==0) F)
 (av false F)))
 λau=>
 aL ac
 (aH (.int .i64) E (a1.add 4) λbj=>
 au (bj==0) E)
 (au false E)))
 λar=>
 aL ap
 (ar aF b)
 (ar false b))
 (aL (d==2)
 (aO (mK 2 (λa (ah:Bool)=>a 1=VA a1/\a 49=VB ah) (λah D=>
 aO (mK 7 (λa (ai:Bool)=>a 1=VA a1/\a 57=VB ai) (λai J=>
 aO (mK 4 (λa (ak:Bool)=>a 1=VA a1/\a 62=VB ak) (λak K=>
 aO (mK 4 (λa (al:Bool)=>a 1=VA a1/\a 67=VB al) (λal L=>
 aO (mK 5 (λa (am:Bool)=>a 73=VB am) (λam bd=>
 Q am bd))
 λaC=>
 aL al
 (aH Sl.v L (a1.add 7) λbk=>
 aC ((bk.len:Int)==0) L)
 (aC false L)))
 λaB=>
 aL ak
 (aH (.int .i64) K (a1.add 6) λbl=>
 aB (bl==0) K)
 (aB false K)))
 λaA=>
 aL ai
 (aH (.int .i64) J (a1.add 5) λbm=>
 aA (bm==0) J)
 (aA false J)))
 λaz=>
 aL ah
 (aH (.int .i64) D (a1.add 4) λbn=>
 aH (.int .i64) D (a1.add 3) λbo=>
 dU bn 1 (IntKind.wrap .i64 (64-bo)) D λbp be=>
 az bp be)
 (az false D)))
 λay=>
 aL ap
 (ay aF b)
 (ay false b))
 (aL (d==3)
 (aO (mK 4 (λa (an:Bool)=>a 1=VA a1/\a 81=VB an) (λan M=>
 aO (mK 4 (λa (ao:Bool)=>a 1=VA a1/\a 86=VB ao) (λao e=>
 aO (mK 4 (λa (p:Bool)=>a 1=VA a1/\a 91=VB p) (λp f=>
 aO (mK 4 (λa (q:Bool)=>a 1=VA a1/\a 96=VB q) (λq g=>
 aO (mK 5 (λa (r:Bool)=>a 102=VB r) (λr aG=>
 Q r aG))
 λP=>
 aL q
 (aH Sl.v g (a1.add 7) λaP=>
 P ((aP.len:Int)==0) g)
 (P false g)))
 λO=>
 aL p
 (aH (.int .i64) f (a1.add 6) λaQ=>
 O (aQ==0) f)
 (O false f)))
 λN=>
 aL ao
 (aH (.int .i64) e (a1.add 5) λaR=>
 dU aR 1 2147483647 e λa8 aI=>
 N a8 aI)
 (N false e)))
 λaE=>
 aL an
 (aH (.int .i64) M (a1.add 4) λaS=>
 aE (aS==0) M)
 (aE false M)))
 λaD=>
 aL ap
 (aH (.int .i64) b (a1.add 3) λaT=>
 aD (aT==0) b)
 (aD false b))
 (aL (d==8)
 (aH (.int .i64) b (a1.add 2) λaU=>
 dU aU 0 2147483647 b λa9 h=>
 aO (mK 4 (λa (s:Bool)=>a 1=VA a1/\a 112=VB s) (λs i=>
 aO (mK 4 (λa (t:Bool)=>a 1=VA a1/\a 117=VB t) (λt j=>
 aO (mK 4 (λa (u:Bool)=>a 1=VA a1/\a 122=VB u) (λu c=>
 aO (mK 6 (λa (w:Bool)=>a 1=VA a1/\a 129=VB w) (λw k=>
 aO (mK 5 (λa (x:Bool)=>a 135=VB x) (λx aJ=>
 Q x aJ))
 λV=>
 aL w
 (aH Sl.v k (a1.add 7) λaV=>
 V ((aV.len:Int)==0) k)
 (V false k)))
 λU=>
 aL u
 (aH (.int .i64) c (a1.add 6) λaW=>
 aH (.int .i64) c (a1.add 2) λaX=>
 dU aW 0 aX c λba aK=>
 U ba aK)
 (U false c)))
 λT=>
 aL t
 (aH (.int .i64) j (a1.add 5) λaY=>
 dU aY 0 2147483647 j λbb aM=>
 T bb aM)
 (T false j)))
 λS=>
 aL s
 (aH (.int .i64) i (a1.add 4) λaZ=>
 S (aZ==0) i)
 (S false i)))
 λR=>
 aL a9
 (aH (.int .i64) h (a1.add 3) λa0=>
 R (a0==0) h)
 (R false h))
 (aL (d==9)
 (aH (.int .i64) b (a1.add 2) λa2=>
 aO (mK 4 (λa (y:Bool)=>a 1=VA a1/\a 145=VB y) (λy l=>
 aO (mK 4 (λa (z:Bool)=>a 1=VA a1/\a 150=VB z) (λz m=>
 aO (mK 4 (λa (A:Bool)=>a 1=VA a1/\a 155=VB A) (λA n=>
 aO (mK 4 (λa (B:Bool)=>a 1=VA a1/\a 160=VB B) (λB o=>
 aO (mK 5 (λa (C:Bool)=>a 166=VB C) (λC aN=>
 Q C aN))
 λab=>
 aL B
 (aH Sl.v o (a1.add 7) λa3=>
 ab ((a3.len:Int)==0) o)
 (ab false o)))
 λaa=>
 aL A
 (aH (.int .i64) n (a1.add 6) λa4=>
 aa (a4==0) n)
 (aa false n)))
 λZ=>
 aL z
 (aH (.int .i64) m (a1.add 5) λa5=>
 Z (a5==0) m)
 (Z false m)))
 λY=>
 aL y
 (aH (.int .i64) l (a1.add 4) λa6=>
 Y (a6==0) l)
 (Y false l)))
 λX=>
 aL (a2==0)
 (aH (.int .i64) b (a1.add 3) λa7=>
 X (a7==0) b)
 (X false b))
 (Q false b))))))
def pC (p0:Int) (H:PH) (Q:Option Addr->PH->Prop):Prop:=
 dU p0 0 65536 H λe H1=>
 aL (!e)
 (Q none H1)
 (zA H1 5 1 [.int .u8 0] p0 p0 λd a=>
 aj a (row [Sl.v d,VI 0] 102) λc b=>
 Q (some c) b)
def lH (p0:Option Addr) (p1:Sl) (H:PH) (Q:Bool->PH->Prop):Prop:=
 mP [0,1,2,3]<|
 aP p0 λa1=>
 mP [4,5]<|
 aH Sl.v H (a1.add 0) λl=>
 mP [6,7,8]<|
 aP p0 λk=>
 mP [9,10]<|
 aH (.int .i64) H (k.add 1) λm=>
 mP [11,12]<|
 aL (decide ((IntKind.wrap .i64 ((l.len:Int)-m))<(p1.len:Int)))
 (Q false H)
 (mP [0,1]<|
 aP p0 λd=>
 mP [2,3]<|
 aH Sl.v H (d.add 0) λb=>
 mP [4,5]<|
 aP p0 λe=>
 mP [6,7]<|
 aH (.int .i64) H (e.add 1) λi=>
 mP [8]<|
 kv b 1 i (b.len:Int) λh=>
 mP [9,10]<|
 nC H 1 h p1 λn a=>
 aP p0 λf=>
 aH (.int .i64) a (f.add 1) λj=>
 aP p0 λg=>
 aV a (g.add 1) ([VI (IntKind.wrap .i64 (j+(p1.len:Int)))]) λc=>
 Q true c)
def rF (p0:Int) (H:PH) (Q:Int->PH->Prop):Prop:=
 aL (p0==1)
 (Q 255 H)
 (aL (p0==2)
 (Q 65535 H)
 (aL (p0==4)
 (Q 4294967295 H)
 (Q (-1) H)))
def gM (p0:Option Addr) (p1:Int) (p2:Sl) (H:PH) (Q:Bool->PH->Prop):Prop:=
 rF p1 H λk H1=>
 mP [0,1,2]<|
 aO (mQ 4095 [8] (λa (s4:Bool)=>a 0=VP p0/\a 1=VI p1/\a 2=Sl.v p2/\a 7=VI k/\a 25=VB s4) (λs4 l=>
 mP [12]<|
 aO (mQ 536870911 [25,20,8] (λa (q:Bool)=>a 0=VP p0/\a 1=VI p1/\a 2=Sl.v p2/\a 7=VI k/\a 42=VB q) (λq m=>
 aL q
 (Q false m)
 (bw (mL (λa (d:Int)=>a 0=VP p0/\a 1=VI p1/\a 2=Sl.v p2/\a 7=VI k/\a 8=VI d) (λd i f=>
 aL (decide (d<(p2.len:Int)))
 (bX p2 1 d λs=>
 aH (.int .i64) i s λE=>
 dU E 0 k i λN n=>
 aL (!N)
 (Q false n)
 (f (IntKind.wrap .i64 (d+1)) n))
 (bw (mL (λa (c:Int)=>a 0=VP p0/\a 1=VI p1/\a 2=Sl.v p2/\a 9=VI c) (λc j g=>
 aL (decide (c<(p2.len:Int)))
 (bX p2 1 c λt=>
 aH (.int .i64) j t λF=>
 bw (mL (λa (b:Int×Int)=>a 0=VP p0/\a 1=VI p1/\a 2=Sl.v p2/\a 9=VI c/\a 10=VI b.1/\a 11=VI b.2) (λb e h=>
 aL (decide (b.2<p1))
 (mP [0,1]<|
 aP p0 λu=>
 mP [2,3]<|
 aH Sl.v e (u.add 0) λG=>
 mP [4,5]<|
 aP p0 λw=>
 mP [6,7]<|
 aH (.int .i64) e (w.add 1) λI=>
 mP [8,9,10,11]<|
 bX G 1 I λx=>
 mP [12]<|
 aV e x ([.int .u8 (IntKind.wrap .u8 (jd .i64 b.1 255))]) λo=>
 aP p0 λy=>
 aH (.int .i64) o (y.add 1) λJ=>
 aP p0 λz=>
 aV o (z.add 1) ([VI (IntKind.wrap .i64 (J+1))]) λr=>
 h (gy .i64 b.1 8,IntKind.wrap .i64 (b.2+1)) r)
 (g (IntKind.wrap .i64 (c+1)) e)))
 (F,0) j)
 (Q true j)))
 0 i)))
 0 m)))
 λp=>
 aL s4
 (mP [13,14,15,16,17,18,19,20,21,22,23,24,25,26,27,28]<|
 p true l)
 (mP [13,14,15,16,17,18]<|
 aP p0 λA=>
 mP [19,20]<|
 aH Sl.v l (A.add 0) λK=>
 mP [21,22,23]<|
 aP p0 λB=>
 mP [24,25]<|
 aH (.int .i64) l (B.add 1) λL=>
 mP [26,27,28]<|
 p (decide ((IntKind.wrap .i64 ((K.len:Int)-L))<(IntKind.wrap .i64 ((p2.len:Int)*p1)))) l)))
 λD=>
 aL (decide (k< 0))
 (mP [3,4,5,6,7,8,9,10,11]<|
 D true H1)
 (mP [3,4,5,6]<|
 aP p0 λC=>
 mP [7,8]<|
 aH Sl.v H1 (C.add 0) λM=>
 mP [9,10,11]<|
 D (decide ((M.len:Int)<(p2.len:Int))) H1)
def vF (p0:Int) (p1:Sl) (H:PH) (Q:Int->PH->Prop):Prop:=
 om p0 4294967296 H λm H1=>
 bw (mL (λd (b:Int×Int)=>d 1=Sl.v p1/\d 5=.int .u32 b.1/\d 6=VI b.2) (λb i g=>
 aL (decide (b.2<(p1.len:Int)))
 (bX p1 1 b.2 λl=>
 aH (.int .u8) i l λk=>
 bw (mL (λd (a:Int×Int×Int)=>d 1=Sl.v p1/\d 5=.int .u32 a.1/\d 6=VI b.2/\d 7=.int .u32 a.2.1/\d 8=VI a.2.2) (λa f e=>
 aL (decide (a.2.2< 8))
 (aO (mB (λd (c:Int×Int)=>d 1=Sl.v p1/\d 5=.int .u32 c.1/\d 6=VI b.2/\d 7=.int .u32 c.2/\d 8=VI a.2.2) (λc j=>
 e (c.1,c.2,IntKind.wrap .i64 (a.2.2+1)) j))
 λh=>
 aL ((jd .u32 (vo .u32 a.1 a.2.1) 1)==1)
 (h (vo .u32 (gy .u32 a.1 1) 2197175160,gy .u32 a.2.1 1) f)
 (h (gy .u32 a.1 1,gy .u32 a.2.1 1) f))
 (g (a.1,IntKind.wrap .i64 (b.2+1)) f)))
 (b.1,IntKind.wrap .u32 k,0) i)
 (Q (IntKind.wrap .i64 (G2 .u32 b.1)) i)))
 (G2 .u32 (IntKind.wrap .u32 m),0) H1
def sW (p0:Sl) (H:PH) (Q:Int->PH->Prop):Prop:=
 vF 0 p0 H λa H1=>
 Q a H1
def sI (p0:Option Addr) (p1:Int) (p2:Int) (H:PH) (Q:PH->Prop):Prop:=
 bZ H (row [VI p2] 3) 1 λr1 a=>
 gM p0 p1 r1 a λc b=>
 Q b
def fp (p0:jk) (H:PH) (Q:Sl->Int->PH->Prop):Prop:=
 aj H (row (bS p0) 54) λa1 k=>
 aT bS k a1 8 λL=>
 mW L k λN i=>
 aL (!N)
 (Q Sl.nil 1 i)
 (aH Sl.v i (a1.add 7) λM=>
 pC (IntKind.wrap .i64 (25+(M.len:Int))) i λa f=>
 aH (.int .i64) f (a1.add 0) λy=>
 bZ f (row [.int .u8 75,.int .u8 70,.int .u8 (IntKind.wrap .u8 y)] 5) 3 λs j=>
 lH a s j λO b=>
 aH (.int .i64) b (a1.add 1) λz=>
 aH (.int .i64) b (a1.add 2) λA=>
 bZ b (row [VI z,VI A] 3) 2 λt l=>
 gM a 4 t l λP c=>
 aH (.int .i64) c (a1.add 3) λB=>
 aH (.int .i64) c (a1.add 4) λC=>
 bZ c (row [VI B,VI C] 3) 2 λu m=>
 gM a 1 u m λR d=>
 aH (.int .i64) d (a1.add 5) λD=>
 aH (.int .i64) d (a1.add 6) λE=>
 bZ d (row [VI D,VI E] 3) 2 λw n=>
 gM a 4 w n λS g=>
 aH Sl.v g (a1.add 7) λF=>
 lH a F g λT e=>
 mP [0,1,2]<|
 aP a λp=>
 mP [3,4]<|
 aH Sl.v e (p.add 0) λG=>
 mP [5,6]<|
 aP a λq=>
 mP [7,8]<|
 aH (.int .i64) e (q.add 1) λI=>
 mP [9]<|
 kv G 1 0 I λx=>
 mP [10]<|
 sW x e λK o=>
 mP [11]<|
 sI a 4 K o λh=>
 aP a λr=>
 aH Sl.v h (r.add 0) λJ=>
 Q J 0 h)
def oS (p0:Sl) (p1:Sl) (H:PH) (Q:Bool->PH->Prop):Prop:=
 aL ((p0.len:Int) != (p1.len:Int))
 (Q false H)
 (bw (mL (λi (s2:Int)=>i 0=Sl.v p0/\i 1=Sl.v p1/\i 5=VI s2) (λs2 b a=>
 aL (decide (s2<(p0.len:Int)))
 (mP [0,1,2]<|
 bX p0 1 s2 λg=>
 mP [3]<|
 aH Sl.v b g λh=>
 mP [4,5,6]<|
 bX p1 1 s2 λd=>
 mP [7]<|
 aH Sl.v b d λe=>
 mP [8]<|
 mD h e b λf c=>
 mP [9]<|
 aL (!f)
 (Q false c)
 (a (IntKind.wrap .i64 (s2+1)) c))
 (Q true b)))
 0 H)
def sJ (p0:Int) (p1:Sl) (H:PH) (Q:Bool->PH->Prop):Prop:=
 aL (decide (40<(p1.len:Int)))
 (oE H λy3 H2=>
 Q y3 H2)
 (nj p0 H λy5 H4=>
 aj H4 (row Dy 25) λj H7=>
 aV H7 j (fZ y5) λH9=>
 aT fZ H9 j 3 λb7=>
 nw b7 4 H9 λd cd aM=>
 aL (!cd)
 (Q false aM)
 (bw (mL (λa (b:Int)=>a 1=Sl.v p1/\a 5=VA j/\a 6=VP d/\a 8=VI b) (λb X ab=>
 aL (decide (b<(p1.len:Int)))
 (bX p1 4 b λb2=>
 aH (.int .i64) X (b2.add 3) λb8=>
 aO (mK 6 (λa (aE:Bool)=>a 1=Sl.v p1/\a 5=VA j/\a 6=VP d/\a 8=VI b/\a 54=VB aE) (λaE aN=>
 aO (mK 4 (λa (aF:Bool)=>a 1=Sl.v p1/\a 5=VA j/\a 6=VP d/\a 8=VI b/\a 59=VB aF) (λaF aP=>
 aL aF
 (Q false aP)
 (ff d aP λq bV=>
 fv q bV λce bW=>
 aj bW (row lv 42) λc bY=>
 aV bY c (dB ce) λaQ=>
 mP [0,2,3]<|
 aH (.int .i64) aQ (j.add 0) λa1=>
 mP [1]<|
 fE q aQ λcf aR=>
 ay aR (j.add 0) (VI a1)<|
 mP [4]<|
 mE cf a1 aR λi aa aS=>
 mP [5,6,7,8,9]<|
 bX p1 4 b λb3=>
 aH (.int .i64) aS (b3.add 1) λb9=>
 gq b9 8 aS λg ah=>
 mP [0,1,2]<|
 bX p1 4 b λb4=>
 mP [3,4]<|
 aH (.int .i64) ah (b4.add 2) λca=>
 mP [5,6]<|
 aH (.int .i64) ah (j.add 0) λcb=>
 mP [7]<|
 gq ca cb ah λa3 o=>
 mP [8]<|
 bX p1 4 b λb5=>
 aH (.int .i64) o (b5.add 0) λZ=>
 aO (mB (λa (w:Sl×Int)=>a 1=Sl.v p1/\a 5=VA j/\a 6=VP d/\a 8=VI b/\a 9=VP q/\a 10=VA c/\a 11=Sl.v i/\a 12=VB aa/\a 13=VI (IntKind.wrap .i64 (1+g))/\a 15=Sl.v w.1/\a 16=VI w.2) (λw aU=>
 aO (mK 1 (λa (f:Int)=>a 1=Sl.v p1/\a 5=VA j/\a 6=VP d/\a 8=VI b/\a 9=VP q/\a 10=VA c/\a 11=Sl.v i/\a 12=VB aa/\a 13=VI (IntKind.wrap .i64 (1+g))/\a 16=VI f) (λf bZ=>
 fv q bZ λcg b0=>
 aj b0 (row lv 42) λh b1=>
 aV b1 h (dB cg) λaW=>
 mP [0,2,3]<|
 aH (.int .i64) aW (j.add 0) λa2=>
 mP [1]<|
 fE q aW λch aX=>
 ay aX (j.add 0) (VI a2)<|
 mP [4]<|
 mE ch a2 aX λk a4 Y=>
 mP [5,6,7,8,9]<|
 bX p1 4 b λb6=>
 aH (.int .i64) Y (b6.add 0) λcc=>
 aO (mK 7 (λa (e:Bool)=>a 1=Sl.v p1/\a 5=VA j/\a 6=VP d/\a 8=VI b/\a 10=VA c/\a 11=Sl.v i/\a 12=VB aa/\a 13=VI (IntKind.wrap .i64 (1+g))/\a 16=VI f/\a 17=VA h/\a 18=Sl.v k/\a 19=VB a4/\a 179=VB e) (λe ac=>
 aO (mK 3 (λa (F:Bool)=>a 1=Sl.v p1/\a 5=VA j/\a 6=VP d/\a 8=VI b/\a 10=VA c/\a 11=Sl.v i/\a 13=VI (IntKind.wrap .i64 (1+g))/\a 16=VI f/\a 17=VA h/\a 18=Sl.v k/\a 20=VB e/\a 185=VB F) (λF x=>
 aO (mK 6 (λa (t:Bool)=>a 1=Sl.v p1/\a 5=VA j/\a 6=VP d/\a 8=VI b/\a 10=VA c/\a 11=Sl.v i/\a 13=VI (IntKind.wrap .i64 (1+g))/\a 16=VI f/\a 17=VA h/\a 18=Sl.v k/\a 20=VB e/\a 192=VB t) (λt p=>
 aO (mK 16 (λa (C:Bool)=>a 1=Sl.v p1/\a 5=VA j/\a 6=VP d/\a 8=VI b/\a 10=VA c/\a 11=Sl.v i/\a 13=VI (IntKind.wrap .i64 (1+g))/\a 16=VI f/\a 17=VA h/\a 18=Sl.v k/\a 20=VB e/\a 209=VB C) (λC r=>
 aO (mK 9 (λa (G:Bool)=>a 1=Sl.v p1/\a 5=VA j/\a 6=VP d/\a 8=VI b/\a 10=VA c/\a 11=Sl.v i/\a 13=VI (IntKind.wrap .i64 (1+g))/\a 16=VI f/\a 17=VA h/\a 18=Sl.v k/\a 20=VB e/\a 219=VB G) (λG l=>
 aL G
 (Q false l)
 (aO (mB (λa (I:Int)=>a 1=Sl.v p1/\a 5=VA j/\a 6=VP d/\a 8=VI b/\a 10=VA c/\a 11=Sl.v i/\a 16=VI f/\a 17=VA h/\a 18=Sl.v k/\a 21=VI I) (λI s=>
 aL (f != I)
 (Q false s)
 (aO (mK 4 (λa (u:Bool)=>a 1=Sl.v p1/\a 5=VA j/\a 6=VP d/\a 8=VI b/\a 11=Sl.v i/\a 16=VI f/\a 17=VA h/\a 18=Sl.v k/\a 264=VB u) (λu y=>
 aO (mK 16 (λa (J:Bool)=>a 1=Sl.v p1/\a 5=VA j/\a 6=VP d/\a 8=VI b/\a 11=Sl.v i/\a 16=VI f/\a 18=Sl.v k/\a 281=VB J) (λJ z=>
 aL J
 (Q false z)
 (bX p1 4 b λbm=>
 aH (.int .i64) z (bm.add 0) λbr=>
 aO (mK 3 (λa (K:Bool)=>a 1=Sl.v p1/\a 5=VA j/\a 6=VP d/\a 8=VI b/\a 11=Sl.v i/\a 18=Sl.v k/\a 291=VB K) (λK ad=>
 aO (mK 5 (λa (L:Bool)=>a 1=Sl.v p1/\a 5=VA j/\a 6=VP d/\a 8=VI b/\a 297=VB L) (λL ae=>
 aL L
 (Q false ae)
 (ab (IntKind.wrap .i64 (b+1)) ae)))
 λar=>
 aL K
 (oS i k ad λbK a5=>
 ar (!bK) a5)
 (ar false ad)))
 λaq=>
 aL (br != 2)
 (aq true z)
 (aq (f != 0) z))))
 λap=>
 aL u
 (ap true y)
 (aO (mK 7 (λa (M:Bool)=>a 1=Sl.v p1/\a 5=VA j/\a 6=VP d/\a 8=VI b/\a 11=Sl.v i/\a 16=VI f/\a 17=VA h/\a 18=Sl.v k/\a 265=VB u/\a 275=VB M) (λM E=>
 aO (mK 4 (λa (N:Bool)=>a 1=Sl.v p1/\a 5=VA j/\a 6=VP d/\a 8=VI b/\a 11=Sl.v i/\a 16=VI f/\a 18=Sl.v k/\a 265=VB u/\a 280=VB N) (λN a7=>
 ap N a7))
 λav=>
 aL M
 (aH (.int .i64) E (h.add 0) λbs=>
 av (bs != 2) E)
 (av false E)))
 λau=>
 aL (f==0)
 (bX p1 4 b λbn=>
 aH (.int .i64) y (bn.add 0) λbt=>
 au (bt==1) y)
 (au false y))))
 λao=>
 aL (f != 0)
 (aT dB s h 10 λm=>
 aT dB s c 10 λn=>
 ao (!(uN [m.1==n.1,m.2.1==n.2.1,m.2.2.1==n.2.2.1,m.2.2.2.1==n.2.2.2.1,m.2.2.2.2.1==n.2.2.2.2.1,m.2.2.2.2.2.1==n.2.2.2.2.2.1,m.2.2.2.2.2.2.1==n.2.2.2.2.2.2.1,m.2.2.2.2.2.2.2.1==n.2.2.2.2.2.2.2.1,m.2.2.2.2.2.2.2.2.1==n.2.2.2.2.2.2.2.2.1,m.2.2.2.2.2.2.2.2.2==n.2.2.2.2.2.2.2.2.2])) s)
 (ao false s))))
 λB=>
 aH (.int .i64) l (c.add 0) λbu=>
 aL (bu==2)
 (B 7 l)
 (aO (mK 19 (λa (O:Bool)=>a 1=Sl.v p1/\a 5=VA j/\a 6=VP d/\a 8=VI b/\a 10=VA c/\a 11=Sl.v i/\a 13=VI (IntKind.wrap .i64 (1+g))/\a 16=VI f/\a 17=VA h/\a 18=Sl.v k/\a 20=VB e/\a 21=VI 0/\a 245=VB O) (λO A=>
 aL O
 (B 8 A)
 (aO (mK 5 (λa (P:Bool)=>a 1=Sl.v p1/\a 5=VA j/\a 6=VP d/\a 8=VI b/\a 10=VA c/\a 11=Sl.v i/\a 16=VI f/\a 17=VA h/\a 18=Sl.v k/\a 21=VI 0/\a 254=VB P) (λP af=>
 aL P
 (B 8 af)
 (B 0 af)))
 λax=>
 aL (!e)
 (aH (.int .i64) A (c.add 1) λbv=>
 ax ((IntKind.wrap .i64 (1+g)) != bv) A)
 (ax false A))))
 λaw=>
 aL e
 (aH (.int .i64) l (c.add 1) λaG=>
 aO (mK 13 (λa (R:Bool)=>a 1=Sl.v p1/\a 5=VA j/\a 6=VP d/\a 8=VI b/\a 10=VA c/\a 11=Sl.v i/\a 13=VI (IntKind.wrap .i64 (1+g))/\a 16=VI f/\a 17=VA h/\a 18=Sl.v k/\a 20=VB e/\a 21=VI 0/\a 226=VB e/\a 244=VB R) (λR a8=>
 aw R a8))
 λaz=>
 aL (decide ((IntKind.wrap .i64 (1+g))<aG))
 (az true l)
 (aH (.int .i64) l (c.add 1) λbx=>
 aO (mK 7 (λa (S:Bool)=>a 1=Sl.v p1/\a 5=VA j/\a 6=VP d/\a 8=VI b/\a 10=VA c/\a 11=Sl.v i/\a 13=VI (IntKind.wrap .i64 (1+g))/\a 16=VI f/\a 17=VA h/\a 18=Sl.v k/\a 20=VB e/\a 21=VI 0/\a 226=VB e/\a 231=VB (decide ((IntKind.wrap .i64 (1+g))<aG))/\a 243=VB S) (λS a9=>
 az S a9))
 λaA=>
 aL ((IntKind.wrap .i64 (1+g))==bx)
 (bX p1 4 b λbo=>
 aH (.int .i64) l (bo.add 0) λbz=>
 aA (bz==1) l)
 (aA false l)))
 (aw false l)))))
 λan=>
 aL C
 (an true r)
 (aH (.int .i64) r (c.add 0) λbA=>
 aO (mK 4 (λa (T:Bool)=>a 1=Sl.v p1/\a 5=VA j/\a 6=VP d/\a 8=VI b/\a 10=VA c/\a 11=Sl.v i/\a 13=VI (IntKind.wrap .i64 (1+g))/\a 16=VI f/\a 17=VA h/\a 18=Sl.v k/\a 20=VB e/\a 210=VB C/\a 218=VB T) (λT ba=>
 an T ba))
 λaB=>
 aL (bA==2)
 (aH (.int .i64) r (h.add 0) λbB=>
 aB (bB != 2) r)
 (aB false r))))
 λam=>
 aL t
 (am true p)
 (aH (.int .i64) p (h.add 1) λaI=>
 aH (.int .i64) p (c.add 1) λaJ=>
 aO (mK 9 (λa (U:Bool)=>a 1=Sl.v p1/\a 5=VA j/\a 6=VP d/\a 8=VI b/\a 10=VA c/\a 11=Sl.v i/\a 13=VI (IntKind.wrap .i64 (1+g))/\a 16=VI f/\a 17=VA h/\a 18=Sl.v k/\a 20=VB e/\a 193=VB t/\a 208=VB U) (λU bb=>
 am U bb))
 λaC=>
 aL (aI != aJ)
 (aO (mK 5 (λa (V:Bool)=>a 1=Sl.v p1/\a 5=VA j/\a 6=VP d/\a 8=VI b/\a 10=VA c/\a 11=Sl.v i/\a 13=VI (IntKind.wrap .i64 (1+g))/\a 16=VI f/\a 17=VA h/\a 18=Sl.v k/\a 20=VB e/\a 193=VB t/\a 199=VB (aI != aJ)/\a 207=VB V) (λV bc=>
 aC V bc))
 λaD=>
 aL (!e)
 (aD true p)
 (aH (.int .i64) p (h.add 1) λbC=>
 aD (bC != (IntKind.wrap .i64 (1+g))) p))
 (aC false p))))
 λal=>
 aL F
 (al true x)
 (aH (.int .i64) x (h.add 1) λbD=>
 aH (.int .i64) x (c.add 1) λbE=>
 al (decide (bD<bE)) x)))
 λak=>
 aL (!aa)
 (ak true ac)
 (ak (!a4) ac)))
 λai=>
 aL (cc==0)
 (ai true Y)
 (bX p1 4 b λbp=>
 aH (.int .i64) Y (bp.add 0) λbF=>
 ai (bF==1) Y)))
 λa0=>
 aL (decide (0<(w.1.len:Int)))
 (lQ q w.1 aU λci bL bd=>
 a0 bL bd)
 (a0 w.2 aU)))
 λD=>
 aL (Z==0)
 (fp (9,IntKind.wrap .i64 (1+g),0,0,0,0,0,Sl.nil) o λbM cj be=>
 D (bM,0) be)
 (aL (Z==1)
 (iO q (IntKind.wrap .i64 (1+g)) o λbN bf=>
 D (Sl.nil,bN) bf)
 (aL (Z==2)
 (aH (.int .i64) o (c.add 3) λbG=>
 aH (.int .i64) o (c.add 2) λbH=>
 fp (3,IntKind.wrap .i64 (1+g),IntKind.wrap .i64 (bG+1),0,0,IntKind.wrap .i64 (bH+1),0,Sl.nil) o λbO ck bg=>
 D (bO,0) bg)
 (aL (Z==3)
 (aH (.int .i64) o (c.add 3) λbI=>
 fp (2,IntKind.wrap .i64 (1+g),IntKind.wrap .i64 (bI+1),a3,1,0,0,Sl.nil) o λbP cl bh=>
 D (bP,0) bh)
 (mP [0,1,2]<|
 aH (.int .i64) o (c.add 3) λaK=>
 mP [3,4,5,6,7]<|
 bX p1 4 b λbq=>
 mP [8,9]<|
 aH (.int .i64) o (bq.add 0) λbJ=>
 mP [10]<|
 my bJ o λbQ ag=>
 ay ag (c.add 3) (VI aK)<|
 mP [11,12]<|
 fp (1,IntKind.wrap .i64 (1+g),IntKind.wrap .i64 (aK+1),a3,0,0,0,bQ) ag λbR cm bi=>
 mP [13,14,15,16]<|
 D (bR,0) bi)))))))
 λaZ=>
 aL aE
 (aZ true aN)
 (ff d aN λbS bj=>
 aZ (Option.isNone bS) bj)))
 λaY=>
 aL ((jd .i64 b8 1)==1)
 (iw d (18,0,0,0,Sl.nil) X λbT bk=>
 aY (bT.1 != 0) bk)
 (aY false X))
 (oE X λbU bl=>
 Q bU bl)))
 0 aM))
def BA (p0:xl) (H:PH) (Q:Bool->PH->Prop):Prop:=
 aj H (row (dG p0) 196) λa1 a=>
 aH (.int .i64) a (a1.add 0) λb=>
 Q (b==7) a
def z9 (p0:Int) (H:PH) (Q:Bool->PH->Prop):Prop:=
 aO (λ(s2:Bool) (b:PH)=>
 Q s2 b)
 λa=>
 aL (p0 != 0)
 (a (p0 != 1) H)
 (a false H)
def wg (p0:Eu) (H:PH) (Q:Bool->PH->Prop):Prop:=
 aj H (row (dx p0) 210) λa1 a=>
 aH (.int .i64) a (a1.add 0) λb=>
 Q (b==0) a
def Cs (p0:Sl) (H:PH) (Q:Bool->PH->Prop):Prop:=
 Q ((p0.len:Int) != 64) H
end
end Go.Proofs.YtigjebgjphmkoaaGreat
