import Derived.Test.YtbijlklgbfminaaGreatA03
set_option linter.unusedVariables false
set_option linter.unusedSimpArgs false
namespace Go.Proofs.YtbijlklgbfminaaGreat
section
open Go Go.Kx Go.Proofs Go.Kx.Au Go.Kx.W
def vx (p0:Option Addr) (p1:Option Addr) (p2:Option Addr) (p3:Option Addr) (p4:Option Addr) (p5:Int) (b:(Int×Int×Int×Int×Int×Int×Int×Int×Int×Int×Int×Sl×Sl×Sl)) (c:(Int×Int×Int×Int×Int×Int×Int×Int×Int×Int)) (H:PH) (Q:Option Addr->PH->Prop):Prop:=
 ag H (row [VI b.1,VI b.2.1,VI b.2.2.1,VI b.2.2.2.1,VI b.2.2.2.2.1,VI b.2.2.2.2.2.1,VI b.2.2.2.2.2.2.1,VI b.2.2.2.2.2.2.2.1,VI b.2.2.2.2.2.2.2.2.1,VI b.2.2.2.2.2.2.2.2.2.1,VI b.2.2.2.2.2.2.2.2.2.2.1,Sl.v b.2.2.2.2.2.2.2.2.2.2.2.1,Sl.v b.2.2.2.2.2.2.2.2.2.2.2.2.1,Sl.v b.2.2.2.2.2.2.2.2.2.2.2.2.2] 139) λa1 m=>
 ag m (row [VI c.1,VI c.2.1,VI c.2.2.1,VI c.2.2.2.1,VI c.2.2.2.2.1,VI c.2.2.2.2.2.1,VI c.2.2.2.2.2.2.1,VI c.2.2.2.2.2.2.2.1,VI c.2.2.2.2.2.2.2.2.1,VI c.2.2.2.2.2.2.2.2.2] 61) λh e=>
 mP [0,1,2,3,4,5]<|
 aU (λ(x:(Int×Int×Int×Int×Int×Int×Int×Int×Int×Int))=>[VI x.1,VI x.2.1,VI x.2.2.1,VI x.2.2.2.1,VI x.2.2.2.2.1,VI x.2.2.2.2.2.1,VI x.2.2.2.2.2.2.1,VI x.2.2.2.2.2.2.2.1,VI x.2.2.2.2.2.2.2.2.1,VI x.2.2.2.2.2.2.2.2.2]) e h 10 λa=>
 mP [6,7,8]<|
 aH Sl.v e (a1.add 11) λn=>
 mP [10,11]<|
 aH Sl.v e (a1.add 12) λg=>
 mP [9]<|
 c6 n e λk d=>
 ar d (a1.add 12) (Sl.v g)<|
 fU d h 10 ([VI a.1,VI a.2.1,VI a.2.2.1,VI a.2.2.2.1,VI a.2.2.2.2.1,VI a.2.2.2.2.2.1,VI a.2.2.2.2.2.2.1,VI a.2.2.2.2.2.2.2.1,VI a.2.2.2.2.2.2.2.2.1,VI a.2.2.2.2.2.2.2.2.2])<|
 mP [12]<|
 c6 g d λl f=>
 fU f h 10 ([VI a.1,VI a.2.1,VI a.2.2.1,VI a.2.2.2.1,VI a.2.2.2.2.1,VI a.2.2.2.2.2.1,VI a.2.2.2.2.2.2.1,VI a.2.2.2.2.2.2.2.1,VI a.2.2.2.2.2.2.2.2.1,VI a.2.2.2.2.2.2.2.2.2])<|
 mP [13,14,15]<|
 ag f (row [.pointer p0,.pointer p4,.pointer p1,.pointer p2,.pointer p3,VI a.1,VI a.2.1,VI a.2.2.1,VI a.2.2.2.1,VI a.2.2.2.2.1,VI a.2.2.2.2.2.1,VI a.2.2.2.2.2.2.1,VI a.2.2.2.2.2.2.2.1,VI a.2.2.2.2.2.2.2.2.1,VI a.2.2.2.2.2.2.2.2.2,VI p5,Sl.v k,Sl.v l] 124) λj i=>
 mP [16]<|
 Q (some j) i
def vy (p0:Option Addr) (H:PH) (Q:Option Addr->Int->PH->Prop):Prop:=
 aJ (Option.isNone p0)
 (Q none 1 H)
 (ag H (row [.pointer p0,.pointer none,VI 0,VI 0,VI 0,VI 0,VI 0,VI 0,VI 0,VI 0,VI 0,VI 0,VI 0,VI 0,VI 0,VI 0,VI 0,VI 0,Sl.v Sl.nil,Sl.v Sl.nil,Sl.v Sl.nil,VI 0,.pointer none,.pointer none,VI 0,VI 0,VI 0,VI 0,VI 0,VI 0,VI 0,VI 0,VI 0,VI 0,VI 0,VI 0,VI 0,VI 0,VI 0] 151) λc A=>
 nF (some c) A λy n=>
 aJ (y != 0)
 (Q none y n)
 (mf (some c) n λz l=>
 aJ (z != 0)
 (Q none z l)
 (aH Sl.v l ((c.add 7).add 11) λo=>
 kZ (some c) false o l λh e=>
 aJ (h != 0)
 (Q none h e)
 (aH Sl.v e ((c.add 7).add 12) λp=>
 kZ (some c) true p e λi f=>
 aJ (i != 0)
 (Q none i f)
 (lY (some c) f λj g=>
 aJ (j != 0)
 (Q none j g)
 (mh (some c) g λu k d=>
 aJ (k != 0)
 (Q none k d)
 (mP [0,1,2,3,4]<|
 aH .pointer d (c.add 22) λq=>
 mP [5,6,7,8]<|
 aH .pointer d (c.add 23) λr=>
 mP [9,10,11,12,13]<|
 aH .pointer d (c.add 1) λs=>
 mP [14,15,16,17]<|
 aH (.int .i64) d (c.add 21) λt=>
 mP [18,19,20,21]<|
 aU (λ(x:(Int×Int×Int×Int×Int×Int×Int×Int×Int×Int×Int×Sl×Sl×Sl))=>[VI x.1,VI x.2.1,VI x.2.2.1,VI x.2.2.2.1,VI x.2.2.2.2.1,VI x.2.2.2.2.2.1,VI x.2.2.2.2.2.2.1,VI x.2.2.2.2.2.2.2.1,VI x.2.2.2.2.2.2.2.2.1,VI x.2.2.2.2.2.2.2.2.2.1,VI x.2.2.2.2.2.2.2.2.2.2.1,Sl.v x.2.2.2.2.2.2.2.2.2.2.2.1,Sl.v x.2.2.2.2.2.2.2.2.2.2.2.2.1,Sl.v x.2.2.2.2.2.2.2.2.2.2.2.2.2]) d (c.add 7) 14 λa=>
 mP [22,23,24,25]<|
 aU (λ(x:(Int×Int×Int×Int×Int×Int×Int×Int×Int×Int))=>[VI x.1,VI x.2.1,VI x.2.2.1,VI x.2.2.2.1,VI x.2.2.2.2.1,VI x.2.2.2.2.2.1,VI x.2.2.2.2.2.2.1,VI x.2.2.2.2.2.2.2.1,VI x.2.2.2.2.2.2.2.2.1,VI x.2.2.2.2.2.2.2.2.2]) d (c.add 24) 10 λb=>
 mP [26]<|
 vx p0 q r u s t (a.1,a.2.1,a.2.2.1,a.2.2.2.1,a.2.2.2.2.1,a.2.2.2.2.2.1,a.2.2.2.2.2.2.1,a.2.2.2.2.2.2.2.1,a.2.2.2.2.2.2.2.2.1,a.2.2.2.2.2.2.2.2.2.1,a.2.2.2.2.2.2.2.2.2.2.1,a.2.2.2.2.2.2.2.2.2.2.2.1,a.2.2.2.2.2.2.2.2.2.2.2.2.1,a.2.2.2.2.2.2.2.2.2.2.2.2.2) (b.1,b.2.1,b.2.2.1,b.2.2.2.1,b.2.2.2.2.1,b.2.2.2.2.2.1,b.2.2.2.2.2.2.1,b.2.2.2.2.2.2.2.1,b.2.2.2.2.2.2.2.2.1,b.2.2.2.2.2.2.2.2.2) d λw m=>
 mP [27,28]<|
 Q w 0 m)))))))
def kN (p0:Option Addr) (H:PH) (Q:Int->PH->Prop):Prop:=
 aJ (Option.isNone p0)
 (Q 0 H)
 (aN p0 λo=>
 aH Sl.v H (o.add 1) λb=>
 bp (mL (λf (a:Int×Int)=>f 2=VI a.1/\f 10=Sl.v b/\f 11=VI (b.len:Int)/\f 12=VI a.2) (λa j d=>
 aJ (decide (a.2<(b.len:Int)))
 (aM (mB (λf (e:Int)=>f 2=VI e/\f 10=Sl.v b/\f 11=VI (b.len:Int)/\f 12=VI a.2) (λe k=>
 d (e,IntKind.wrap .i64 (a.2+1)) k))
 λh=>
 bX b 2 a.2 λm=>
 aU (λ(x:(Int×Int))=>[VI x.1,VI x.2]) j m 2 λi=>
 ag j (row [VI 0,VI 0] 201) λg l=>
 aX l g ([VI i.1,VI i.2]) λc=>
 aH (.int .i64) c (g.add 0) λn=>
 aJ (n==0)
 (h (IntKind.wrap .i64 (a.1+1)) c)
 (h a.1 c))
 (Q a.1 j)))
 (0,0) H)
def mi (p0:Option Addr) (H:PH) (Q:Int->PH->Prop):Prop:=
 ag H (row [VI 0] 3) λa1 l=>
 cV p0 true l λo m=>
 iM o m λp n=>
 iH Tryz.prog p (λ(g:List Value) (r:Unit) (a:PH) (e:Nat->Unit->PH->Prop)=>
 ∃(h:Int) (d:Int),g=[VI h,VI d]/\
 aJ (d != (-1))
 (aH (.int .i64) a a1 λi=>
 aX a a1 ([VI (IntKind.wrap .i64 (i+1))]) λf=>
 e 0 () f)
 (e 0 () a)) () n λ_ q b=>
 aH (.int .i64) b a1 λj=>
 aX b a1 ([VI j]) λc=>
 aH (.int .i64) c a1 λk=>
 Q k c
def fK (p0:Option Addr) (H:PH) (Q:(Int×Int×Int×Int×Int×Int×Int×Int×Int×Int)->PH->Prop):Prop:=
 ag H (row (List.replicate 10 (VI 0)) 61) λa1 n=>
 aJ (Option.isNone p0)
 (aX n a1 ([VI 0,VI 0,VI 0,VI 0,VI 0,VI 0,VI 0,VI 0,VI 0,VI 0]) λu=>
 aU (λ(x:(Int×Int×Int×Int×Int×Int×Int×Int×Int×Int))=>[VI x.1,VI x.2.1,VI x.2.2.1,VI x.2.2.2.1,VI x.2.2.2.2.1,VI x.2.2.2.2.2.1,VI x.2.2.2.2.2.2.1,VI x.2.2.2.2.2.2.2.1,VI x.2.2.2.2.2.2.2.2.1,VI x.2.2.2.2.2.2.2.2.2]) u a1 10 λd=>
 Q (d.1,d.2.1,d.2.2.1,d.2.2.2.1,d.2.2.2.2.1,d.2.2.2.2.2.1,d.2.2.2.2.2.2.1,d.2.2.2.2.2.2.2.1,d.2.2.2.2.2.2.2.2.1,d.2.2.2.2.2.2.2.2.2) u)
 (aN p0 λI=>
 aU (λ(x:(Int×Int×Int×Int×Int×Int×Int×Int×Int×Int))=>[VI x.1,VI x.2.1,VI x.2.2.1,VI x.2.2.2.1,VI x.2.2.2.2.1,VI x.2.2.2.2.2.1,VI x.2.2.2.2.2.2.1,VI x.2.2.2.2.2.2.2.1,VI x.2.2.2.2.2.2.2.2.1,VI x.2.2.2.2.2.2.2.2.2]) n (I.add 5) 10 λa=>
 ag n (row (List.replicate 10 (VI 0)) 61) λe p=>
 aX p e ([VI a.1,VI a.2.1,VI a.2.2.1,VI a.2.2.2.1,VI a.2.2.2.2.1,VI a.2.2.2.2.2.1,VI a.2.2.2.2.2.2.1,VI a.2.2.2.2.2.2.2.1,VI a.2.2.2.2.2.2.2.2.1,VI a.2.2.2.2.2.2.2.2.2]) λf=>
 aN p0 λv=>
 aH .pointer f (v.add 2) λy=>
 aN p0 λl=>
 aH .pointer f (l.add 3) λm=>
 kN y f λD g=>
 ar g (l.add 3) (.pointer m)<|
 mi m g λE q=>
 aX q (e.add 7) ([VI D]) λr=>
 aX r (e.add 9) ([VI E]) λh=>
 aN p0 λw=>
 aH .pointer h (w.add 3) λz=>
 mJ z h λF s=>
 iH Tryz.prog F (λ(o:List Value) (J:Unit) (i:PH) (G:Nat->Unit->PH->Prop)=>
 ∃(A:Int) (B:Int),o=[VI A,VI B]/\
 aH (.int .i64) i (e.add 8) λC=>
 aX i (e.add 8) ([VI (IntKind.wrap .i64 (C+1))]) λt=>
 G 0 () t) () s λ_ K j=>
 aU (λ(x:(Int×Int×Int×Int×Int×Int×Int×Int×Int×Int))=>[VI x.1,VI x.2.1,VI x.2.2.1,VI x.2.2.2.1,VI x.2.2.2.2.1,VI x.2.2.2.2.2.1,VI x.2.2.2.2.2.2.1,VI x.2.2.2.2.2.2.2.1,VI x.2.2.2.2.2.2.2.2.1,VI x.2.2.2.2.2.2.2.2.2]) j e 10 λb=>
 aX j a1 ([VI b.1,VI b.2.1,VI b.2.2.1,VI b.2.2.2.1,VI b.2.2.2.2.1,VI b.2.2.2.2.2.1,VI b.2.2.2.2.2.2.1,VI b.2.2.2.2.2.2.2.1,VI b.2.2.2.2.2.2.2.2.1,VI b.2.2.2.2.2.2.2.2.2]) λk=>
 aU (λ(x:(Int×Int×Int×Int×Int×Int×Int×Int×Int×Int))=>[VI x.1,VI x.2.1,VI x.2.2.1,VI x.2.2.2.1,VI x.2.2.2.2.1,VI x.2.2.2.2.2.1,VI x.2.2.2.2.2.2.1,VI x.2.2.2.2.2.2.2.1,VI x.2.2.2.2.2.2.2.2.1,VI x.2.2.2.2.2.2.2.2.2]) k a1 10 λc=>
 Q (c.1,c.2.1,c.2.2.1,c.2.2.2.1,c.2.2.2.2.1,c.2.2.2.2.2.1,c.2.2.2.2.2.2.1,c.2.2.2.2.2.2.2.1,c.2.2.2.2.2.2.2.2.1,c.2.2.2.2.2.2.2.2.2) k)
def oF (p0:Int) (p1:Int) (H:PH) (Q:Option Addr->PH->Prop):Prop:=
 aM (mK 3 (λb (s2:Bool)=>b 0=VI p0/\b 1=VI p1/\b 10=VB s2) (λs2 h=>
 aM (mK 3 (λb (e:Bool)=>b 0=VI p0/\b 1=VI p1/\b 14=VB e) (λe i=>
 aM (mK 3 (λb (a:Bool)=>b 0=VI p0/\b 1=VI p1/\b 18=VB a) (λa c=>
 aJ a
 (Q none c)
 (xO c 252 64 [VI 0,VI 0,VI 0,VI 0,.slice none 0 0,.bool false] p0 p0 λm f=>
 ag f (row [Sl.v m,VI p1] 240) λj g=>
 Q (some j) g)))
 λd=>
 aJ e
 (d true i)
 (d (decide (2147483647<p1)) i)))
 λl=>
 aJ s2
 (l true h)
 (l (decide (p1< 1)) h)))
 λk=>
 aJ (decide (p0< 1))
 (k true H)
 (k (decide (16<p0)) H)
def yG (p0:Option Addr) (p1:Int) (H:PH) (Q:Option Addr->PH->Prop):Prop:=
 fK p0 H λh H1=>
 oF p1 (IntKind.wrap .i64 (h.2.2.2.1+1)) H1 λb d=>
 aM (mK 3 (λi (a:Bool)=>i 0=VP p0/\i 5=VP b/\i 17=VB a) (λa e=>
 aJ a
 (Q none e)
 (ag e (row [.pointer p0,.pointer b] 159) λf c=>
 Q (some f) c)))
 λg=>
 aJ (Option.isNone p0)
 (g true d)
 (g (Option.isNone b) d)
def rj (p0:Option Addr) (p1:Int) (H:PH) (Q:Option Addr->Int->PH->Prop):Prop:=
 aM (mK 3 (λj (s2:Bool)=>j 0=VP p0/\j 1=VI p1/\j 13=VB s2) (λs2 c=>
 aJ s2
 (Q none 1 c)
 (vy p0 c λi h d=>
 aJ (h != 0)
 (Q none h d)
 (yG i p1 d λg a=>
 ag a (row [.pointer g] 97) λe b=>
 Q (some e) 0 b))))
 λf=>
 aJ (decide (p1< 1))
 (f true H)
 (f (decide (16<p1)) H)
def wo (H:PH) (Q:Option Addr->PH->Prop):Prop:=
 ag H (row [Sl.v Sl.nil] 194) λa1 a=>
 Q (some a1) a
def uj (p0:(Int×Int×Int)) (p1:Int) (H:PH) (Q:Option Addr->Int->PH->Prop):Prop:=
 ag H (row [VI p0.1,VI p0.2.1,VI p0.2.2] 26) λa1 o=>
 aU (λ(x:(Int×Int×Int))=>[VI x.1,VI x.2.1,VI x.2.2]) o a1 3 λm=>
 pU (m.1,m.2.1,m.2.2) o λz C B=>
 vo 1 p1 B λd s=>
 aM (mK 3 (λA (b:Bool)=>A 1=VI p1/\A 2=VA a1/\A 6=VP z/\A 8=VP d/\A 24=VB b) (λb f=>
 aJ b
 (Q none 1 f)
 (iF z f λu n=>
 tL u n λe j a=>
 aJ (j != 0)
 (Q none j a)
 (aU (λ(x:(Int×Int×Int))=>[VI x.1,VI x.2.1,VI x.2.2]) a a1 3 λc=>
 rB e (c.1,c.2.1,c.2.2) 1 a λk g=>
 aJ (k != 0)
 (Q none k g)
 (rj e p1 g λv l h=>
 aJ (l != 0)
 (Q none l h)
 (wo h λw p=>
 wo p λy q=>
 ag q (row [VI p1,.pointer e,.pointer v,.pointer d,.pointer w,.pointer y] 109) λt r=>
 Q (some t) 0 r))))))
 λi=>
 aJ (C != 0)
 (i true s)
 (i (Option.isNone d) s)
def fh (p0:Option Addr) (H:PH) (Q:Option Addr->PH->Prop):Prop:=
 aJ (Option.isNone p0)
 (Q none H)
 (aN p0 λa=>
 aH .pointer H (a.add 2) λb=>
 Q b H)
def jS (p0:Option Addr) (H:PH) (Q:Option Addr->PH->Prop):Prop:=
 aJ (Option.isNone p0)
 (Q none H)
 (aN p0 λa=>
 aH .pointer H (a.add 1) λb=>
 Q b H)
def kW (p0:Option Addr) (H:PH) (Q:Option Addr->PH->Prop):Prop:=
 aJ (Option.isNone p0)
 (Q none H)
 (aN p0 λa=>
 aH .pointer H (a.add 3) λb=>
 Q b H)
def nH (p0:Option Addr) (H:PH) (Q:Option Addr->PH->Prop):Prop:=
 aJ (Option.isNone p0)
 (Q none H)
 (aN p0 λa=>
 aH .pointer H (a.add 4) λb=>
 Q b H)
def lZ (p0:Option Addr) (H:PH) (Q:Option Addr->PH->Prop):Prop:=
 aJ (Option.isNone p0)
 (Q none H)
 (aN p0 λa=>
 aH .pointer H (a.add 5) λb=>
 Q b H)
def qg (p0:Option Addr) (H:PH) (Q:Option Addr->PH->Prop):Prop:=
 aJ (Option.isNone p0)
 (Q none H)
 (aN p0 λa=>
 aH .pointer H (a.add 0) λb=>
 Q b H)
def oq (p0:Option Addr) (H:PH) (Q:Option Addr->PH->Prop):Prop:=
 aJ (Option.isNone p0)
 (Q none H)
 (aN p0 λa=>
 aH .pointer H (a.add 0) λb=>
 Q b H)
def fX (p0:Option Addr) (H:PH) (Q:Option Addr->PH->Prop):Prop:=
 qg p0 H λb H1=>
 oq b H1 λc a=>
 Q c a
def ji (p0:Option Addr) (H:PH) (Q:Option Addr->PH->Prop):Prop:=
 aJ (Option.isNone p0)
 (Q none H)
 (aN p0 λa=>
 aH .pointer H (a.add 2) λb=>
 Q b H)
def jj (p0:Option Addr) (H:PH) (Q:Option Addr->PH->Prop):Prop:=
 aJ (Option.isNone p0)
 (Q none H)
 (aN p0 λa=>
 aH .pointer H (a.add 3) λb=>
 Q b H)
def mM (p0:Option Addr) (H:PH) (Q:Option Addr->PH->Prop):Prop:=
 aJ (Option.isNone p0)
 (Q none H)
 (aN p0 λa=>
 aH .pointer H (a.add 1) λb=>
 Q b H)
def mN (p0:(Int×Int×Int)) (p1:Int) (H:PH) (Q:Option Addr->Bool->PH->Prop):Prop:=
 ag H (row [VI p0.1,VI p0.2.1,VI p0.2.2] 26) λa1 F=>
 aU (λ(x:(Int×Int×Int))=>[VI x.1,VI x.2.1,VI x.2.2]) F a1 3 λE=>
 uj (E.1,E.2.1,E.2.2) p1 F λa y8 K=>
 aM (mK 3 (λb (cX:Bool)=>b 6=VP a/\b 20=VB cX) (λcX l=>
 aM (mK 4 (λb (d:Bool)=>b 6=VP a/\b 25=VB d) (λd m=>
 aM (mK 4 (λb (e:Bool)=>b 6=VP a/\b 30=VB e) (λe n=>
 aM (mK 4 (λb (f:Bool)=>b 6=VP a/\b 35=VB f) (λf o=>
 aM (mK 4 (λb (g:Bool)=>b 6=VP a/\b 40=VB g) (λg p=>
 aM (mK 4 (λb (h:Bool)=>b 6=VP a/\b 45=VB h) (λh q=>
 aJ h
 (Q none false q)
 (fh a q λT G=>
 fX T G λc r=>
 aM (mK 4 (λb (i:Bool)=>b 8=VP c/\b 49=VP a/\b 56=VB i) (λi s=>
 aM (mK 4 (λb (j:Bool)=>b 8=VP c/\b 49=VP a/\b 61=VB j) (λj t=>
 aM (mK 4 (λb (k:Bool)=>b 49=VP a/\b 66=VB k) (λk I=>
 Q a k I))
 λD=>
 aJ j
 (mM c t λU J=>
 D (!(Option.isNone U)) J)
 (D false t)))
 λC=>
 aJ i
 (jj c s λV L=>
 C (!(Option.isNone V)) L)
 (C false s)))
 λB=>
 aJ (!(Option.isNone c))
 (ji c r λX M=>
 B (!(Option.isNone X)) M)
 (B false r))))
 λA=>
 aJ g
 (A true p)
 (lZ a p λY N=>
 A (Option.isNone Y) N)))
 λz=>
 aJ f
 (z true o)
 (nH a o λZ O=>
 z (Option.isNone Z) O)))
 λy=>
 aJ e
 (y true n)
 (kW a n λaa P=>
 y (Option.isNone aa) P)))
 λw=>
 aJ d
 (w true m)
 (jS a m λab R=>
 w (Option.isNone ab) R)))
 λv=>
 aJ cX
 (v true l)
 (fh a l λac S=>
 v (Option.isNone ac) S)))
 λu=>
 aJ (y8 != 0)
 (u true K)
 (u (Option.isNone a) K)
def sV (p0:Int) (p1:Int) (H:PH) (Q:Int->PH->Prop):Prop:=
 xP p1<|
 xP p1<|
 Q (Int.tmod (IntKind.wrap .i64 ((Int.tmod p0 p1)+p1)) p1) H
def tj (p0:Int) (H:PH) (Q:Sl->PH->Prop):Prop:=
 xO H 5 1 [.int .u8 0] 64 64 λb i=>
 bp (mL (λh (s5:Int)=>h 0=VI p0/\h 3=Sl.v b/\h 7=VI (b.len:Int)/\h 8=VI s5) (λs5 e a=>
 aJ (decide (s5<(b.len:Int)))
 (sV p0 256 e λg c=>
 bX b 1 s5 λf=>
 aX c f ([.int .u8 (IntKind.wrap .u8 (IntKind.wrap .i64 (g+s5)))]) λd=>
 a (IntKind.wrap .i64 (s5+1)) d)
 (Q b e)))
 0 i
def v9 (p0:(Int×Int×Int×Int×Int×Int×Int×Sl)) (H:PH) (Q:(Int×Int×Int×Int×Int×Int×Int×Sl)->PH->Prop):Prop:=
 ag H (row [VI p0.1,VI p0.2.1,VI p0.2.2.1,VI p0.2.2.2.1,VI p0.2.2.2.2.1,VI p0.2.2.2.2.2.1,VI p0.2.2.2.2.2.2.1,Sl.v p0.2.2.2.2.2.2.2] 52) λa1 e=>
 ag e (row [VI 0,VI 0,VI 0,VI 0,VI 0,VI 0,VI 0,.slice none 0 0] 52) λd c=>
 aH (.int .i64) c (a1.add 0) λf=>
 aH (.int .i64) c (a1.add 1) λg=>
 aX c d ([VI f,VI g,VI 0,VI 0,VI 0,VI 0,VI 0,Sl.v Sl.nil]) λb=>
 aU (λ(x:(Int×Int×Int×Int×Int×Int×Int×Sl))=>[VI x.1,VI x.2.1,VI x.2.2.1,VI x.2.2.2.1,VI x.2.2.2.2.1,VI x.2.2.2.2.2.1,VI x.2.2.2.2.2.2.1,Sl.v x.2.2.2.2.2.2.2]) b d 8 λa=>
 Q (a.1,a.2.1,a.2.2.1,a.2.2.2.1,a.2.2.2.2.1,a.2.2.2.2.2.1,a.2.2.2.2.2.2.1,a.2.2.2.2.2.2.2) b
def dH (p0:Int) (p1:Int) (p2:Int) (H:PH) (Q:Bool->PH->Prop):Prop:=
 aM (mK 4 (λc (s2:Bool)=>c 14=VB s2) (λs2 b=>
 Q s2 b))
 λa=>
 aJ (decide (p1<=p0))
 (a (decide (p0<=p2)) H)
 (a false H)
def rk (p0:(Int×Int×Int×Int×Int×Int×Int×Sl)) (p1:(Int×Int×Int×Int×Int×Int×Int×Sl)) (H:PH) (Q:Bool->PH->Prop):Prop:=
 ag H (row [VI p0.1,VI p0.2.1,VI p0.2.2.1,VI p0.2.2.2.1,VI p0.2.2.2.2.1,VI p0.2.2.2.2.2.1,VI p0.2.2.2.2.2.2.1,Sl.v p0.2.2.2.2.2.2.2] 52) λa1 R=>
 ag R (row [VI p1.1,VI p1.2.1,VI p1.2.2.1,VI p1.2.2.2.1,VI p1.2.2.2.2.1,VI p1.2.2.2.2.2.1,VI p1.2.2.2.2.2.2.1,Sl.v p1.2.2.2.2.2.2.2] 52) λa i=>
 aH (.int .i64) i (a1.add 0) λS=>
 aH (.int .i64) i (a.add 0) λT=>
 aM (mK 6 (λb (j:Bool)=>b 2=VA a1/\b 3=VA a/\b 16=VB j) (λj c=>
 aM (mK 6 (λb (k:Bool)=>b 2=VA a1/\b 3=VA a/\b 23=VB k) (λk d=>
 aM (mK 6 (λb (l:Bool)=>b 2=VA a1/\b 3=VA a/\b 30=VB l) (λl e=>
 aM (mK 6 (λb (m:Bool)=>b 2=VA a1/\b 3=VA a/\b 37=VB m) (λm f=>
 aM (mK 6 (λb (n:Bool)=>b 2=VA a1/\b 3=VA a/\b 44=VB n) (λn g=>
 aM (mK 6 (λb (o:Bool)=>b 2=VA a1/\b 3=VA a/\b 51=VB o) (λo h=>
 aM (mK 6 (λb (p:Bool)=>b 58=VB p) (λp y=>
 Q p y))
 λx=>
 aJ o
 (aH Sl.v h (a1.add 7) λA=>
 aH Sl.v h (a.add 7) λB=>
 gx A B h λP z=>
 x P z)
 (x false h)))
 λw=>
 aJ n
 (aH (.int .i64) g (a1.add 6) λC=>
 aH (.int .i64) g (a.add 6) λD=>
 w (C==D) g)
 (w false g)))
 λu=>
 aJ m
 (aH (.int .i64) f (a1.add 5) λE=>
 aH (.int .i64) f (a.add 5) λF=>
 u (E==F) f)
 (u false f)))
 λt=>
 aJ l
 (aH (.int .i64) e (a1.add 4) λG=>
 aH (.int .i64) e (a.add 4) λI=>
 t (G==I) e)
 (t false e)))
 λs=>
 aJ k
 (aH (.int .i64) d (a1.add 3) λJ=>
 aH (.int .i64) d (a.add 3) λK=>
 s (J==K) d)
 (s false d)))
 λr=>
 aJ j
 (aH (.int .i64) c (a1.add 2) λL=>
 aH (.int .i64) c (a.add 2) λM=>
 r (L==M) c)
 (r false c)))
 λq=>
 aJ (S==T)
 (aH (.int .i64) i (a1.add 1) λN=>
 aH (.int .i64) i (a.add 1) λO=>
 q (N==O) i)
 (q false i)
def tO (p0:(Int×Int×Int×Int×Int×Int×Int×Sl)) (H:PH) (Q:Bool->PH->Prop):Prop:=
 ag H (row [VI p0.1,VI p0.2.1,VI p0.2.2.1,VI p0.2.2.2.1,VI p0.2.2.2.2.1,VI p0.2.2.2.2.2.1,VI p0.2.2.2.2.2.2.1,Sl.v p0.2.2.2.2.2.2.2] 52) λa1 H2=>
 aU (λ(x:(Int×Int×Int×Int×Int×Int×Int×Sl))=>[VI x.1,VI x.2.1,VI x.2.2.1,VI x.2.2.2.1,VI x.2.2.2.2.1,VI x.2.2.2.2.2.1,VI x.2.2.2.2.2.2.1,Sl.v x.2.2.2.2.2.2.2]) H2 a1 8 λj=>
 v9 (j.1,j.2.1,j.2.2.1,j.2.2.2.1,j.2.2.2.2.1,j.2.2.2.2.2.1,j.2.2.2.2.2.2.1,j.2.2.2.2.2.2.2) H2 λk H6=>
 ag H6 (row [VI 0,VI 0,VI 0,VI 0,VI 0,VI 0,VI 0,.slice none 0 0] 52) λb H9=>
 aX H9 b ([VI k.1,VI k.2.1,VI k.2.2.1,VI k.2.2.2.1,VI k.2.2.2.2.1,VI k.2.2.2.2.2.1,VI k.2.2.2.2.2.2.1,Sl.v k.2.2.2.2.2.2.2]) λT=>
 aH (.int .i64) T (a1.add 1) λaY=>
 dH aY 1 2147483647 T λg t=>
 aH (.int .i64) t (a1.add 0) λaZ=>
 aM (mK 1 (λa (aW:Unit)=>a 1=VA a1/\a 3=VA b/\a 4=VB g) (λaW U=>
 aH (.int .i64) U (a1.add 2) λa0=>
 dH a0 1 2147483647 U λS V=>
 aH (.int .i64) V (a1.add 3) λa2=>
 dH a2 0 63 V λy c=>
 aH (.int .i64) c (a1.add 0) λi=>
 aM (mB (λa (I:Bool)=>a 1=VA a1/\a 3=VA b/\a 4=VB I) (λI u=>
 aM (mK 4 (λa (J:Bool)=>a 117=VB J) (λJ aR=>
 Q J aR))
 λae=>
 aJ I
 (aU (λ(x:(Int×Int×Int×Int×Int×Int×Int×Sl))=>[VI x.1,VI x.2.1,VI x.2.2.1,VI x.2.2.2.1,VI x.2.2.2.2.1,VI x.2.2.2.2.2.1,VI x.2.2.2.2.2.2.1,Sl.v x.2.2.2.2.2.2.2]) u a1 8 λd=>
 aU (λ(x:(Int×Int×Int×Int×Int×Int×Int×Sl))=>[VI x.1,VI x.2.1,VI x.2.2.1,VI x.2.2.2.1,VI x.2.2.2.2.1,VI x.2.2.2.2.2.1,VI x.2.2.2.2.2.2.1,Sl.v x.2.2.2.2.2.2.2]) u b 8 λe=>
 rk (d.1,d.2.1,d.2.2.1,d.2.2.2.1,d.2.2.2.2.1,d.2.2.2.2.2.1,d.2.2.2.2.2.2.1,d.2.2.2.2.2.2.2) (e.1,e.2.1,e.2.2.1,e.2.2.2.1,e.2.2.2.2.1,e.2.2.2.2.2.1,e.2.2.2.2.2.2.1,e.2.2.2.2.2.2.2) u λa6 aS=>
 ae a6 aS)
 (ae false u)))
 λf=>
 aJ (i==1)
 (mP [0,1]<|
 aH (.int .i64) c (a1.add 3) λa3=>
 mP [2,3]<|
 aH Sl.v c (a1.add 7) λam=>
 mP [4,5]<|
 aX c (b.add 3) ([VI a3]) λX=>
 ar X (a1.add 7) (Sl.v am)<|
 mP [6,7]<|
 aX X (b.add 7) ([Sl.v am]) λY=>
 aM (mK 2 (λa (K:Bool)=>a 1=VA a1/\a 3=VA b/\a 6=VB y/\a 37=VB K) (λK Z=>
 aM (mK 2 (λa (L:Bool)=>a 1=VA a1/\a 3=VA b/\a 40=VB L) (λL B=>
 aM (mK 5 (λa (M:Bool)=>a 1=VA a1/\a 3=VA b/\a 46=VB M) (λM aT=>
 f M aT))
 λai=>
 aJ L
 (aH Sl.v B (a1.add 7) λa4=>
 ai ((a4.len:Int)==64) B)
 (ai false B)))
 λah=>
 aJ K
 (ah y Z)
 (ah false Z)))
 λaf=>
 aJ g
 (af S Y)
 (af false Y))
 (aJ (i==2)
 (mP [0,1]<|
 aH (.int .i64) c (a1.add 3) λa5=>
 mP [2,3]<|
 aH (.int .i64) c (a1.add 4) λan=>
 mP [4,5]<|
 aX c (b.add 3) ([VI a5]) λaa=>
 ar aa (a1.add 4) (VI an)<|
 mP [6,7]<|
 aX aa (b.add 4) ([VI an]) λab=>
 aM (mK 2 (λa (N:Bool)=>a 1=VA a1/\a 3=VA b/\a 6=VB y/\a 58=VB N) (λN ac=>
 aM (mK 2 (λa (O:Bool)=>a 1=VA a1/\a 3=VA b/\a 61=VB O) (λO w=>
 aM (mK 7 (λa (P:Bool)=>a 1=VA a1/\a 3=VA b/\a 69=VB P) (λP aV=>
 f P aV))
 λal=>
 aJ O
 (aH (.int .i64) w (a1.add 4) λaz=>
 aH (.int .i64) w (a1.add 3) λaA=>
 dH az 1 (IntKind.wrap .i64 (64-aA)) w λaL ao=>
 al aL ao)
 (al false w)))
 λak=>
 aJ N
 (ak y ac)
 (ak false ac)))
 λaj=>
 aJ g
 (aj S ab)
 (aj false ab))
 (aJ (i==3)
 (aH (.int .i64) c (a1.add 5) λaB=>
 aX c (b.add 5) ([VI aB]) λz=>
 aM (mK 2 (λa (o:Bool)=>a 1=VA a1/\a 3=VA b/\a 78=VB o) (λo l=>
 aM (mK 4 (λa (p:Bool)=>a 1=VA a1/\a 3=VA b/\a 83=VB p) (λp ap=>
 f p ap))
 λD=>
 aJ o
 (aH (.int .i64) l (a1.add 5) λaC=>
 dH aC 1 2147483647 l λaN aq=>
 D aN aq)
 (D false l)))
 λC=>
 aJ g
 (C S z)
 (C false z))
 (aJ (i==8)
 (mP [0,1]<|
 aH (.int .i64) c (a1.add 5) λaD=>
 mP [2,3]<|
 aH (.int .i64) c (a1.add 6) λR=>
 mP [4,5]<|
 aX c (b.add 5) ([VI aD]) λA=>
 ar A (a1.add 6) (VI R)<|
 mP [6,7]<|
 aX A (b.add 6) ([VI R]) λm=>
 aM (mK 4 (λa (q:Bool)=>a 1=VA a1/\a 3=VA b/\a 97=VB q) (λq n=>
 aM (mK 4 (λa (r:Bool)=>a 1=VA a1/\a 3=VA b/\a 102=VB r) (λr h=>
 aM (mK 6 (λa (s:Bool)=>a 1=VA a1/\a 3=VA b/\a 109=VB s) (λs au=>
 f s au))
 λG=>
 aJ r
 (aH (.int .i64) h (a1.add 6) λaE=>
 aH (.int .i64) h (a1.add 2) λaF=>
 dH aE 0 aF h λaO av=>
 G aO av)
 (G false h)))
 λF=>
 aJ q
 (aH (.int .i64) n (a1.add 5) λaG=>
 dH aG 0 2147483647 n λaP aw=>
 F aP aw)
 (F false n)))
 λE=>
 aJ g
 (aH (.int .i64) m (a1.add 2) λaI=>
 dH aI 0 2147483647 m λaQ ax=>
 E aQ ax)
 (E false m))
 (aJ (i==9)
 (f g c)
 (f false c)))))))
 λad=>
 aJ (aZ != 9)
 (aH (.int .i64) t (a1.add 2) λaK=>
 aX t (b.add 2) ([VI aK]) λay=>
 ad () ay)
 (ad () t)
def uT (p0:Int) (p1:Int) (p2:(Int×Int×Int×Int×Sl)) (H:PH) (Q:(Int×Int×Int×Int×Int×Int×Int×Sl)->Bool->PH->Prop):Prop:=
 ag H (row [VI p2.1,VI p2.2.1,VI p2.2.2.1,VI p2.2.2.2.1,Sl.v p2.2.2.2.2] 46) λa1 G=>
 ag G (row [VI 0,VI 0,VI 0,VI 0,VI 0,VI 0,VI 0,.slice none 0 0] 52) λo g=>
 aM (λ(p:Addr) (y:PH)=>
 aU (λ(x:(Int×Int×Int×Int×Int×Int×Int×Sl))=>[VI x.1,VI x.2.1,VI x.2.2.1,VI x.2.2.2.1,VI x.2.2.2.2.1,VI x.2.2.2.2.2.1,VI x.2.2.2.2.2.2.1,Sl.v x.2.2.2.2.2.2.2]) y p 8 λa=>
 tO (a.1,a.2.1,a.2.2.1,a.2.2.2.1,a.2.2.2.2.1,a.2.2.2.2.2.1,a.2.2.2.2.2.2.1,a.2.2.2.2.2.2.2) y λE h=>
 aM (λ(z:Bool) (i:PH)=>
 aM (λ(A:Bool) (j:PH)=>
 aJ A
 (aX j o ([VI 0,VI 0,VI 0,VI 0,VI 0,VI 0,VI 0,Sl.v Sl.nil]) λq=>
 aU (λ(x:(Int×Int×Int×Int×Int×Int×Int×Sl))=>[VI x.1,VI x.2.1,VI x.2.2.1,VI x.2.2.2.1,VI x.2.2.2.2.1,VI x.2.2.2.2.2.1,VI x.2.2.2.2.2.2.1,Sl.v x.2.2.2.2.2.2.2]) q o 8 λb=>
 Q (b.1,b.2.1,b.2.2.1,b.2.2.2.1,b.2.2.2.2.1,b.2.2.2.2.2.1,b.2.2.2.2.2.2.1,b.2.2.2.2.2.2.2) false q)
 (aU (λ(x:(Int×Int×Int×Int×Int×Int×Int×Sl))=>[VI x.1,VI x.2.1,VI x.2.2.1,VI x.2.2.2.1,VI x.2.2.2.2.1,VI x.2.2.2.2.2.1,VI x.2.2.2.2.2.2.1,Sl.v x.2.2.2.2.2.2.2]) j p 8 λc=>
 aX j o ([VI c.1,VI c.2.1,VI c.2.2.1,VI c.2.2.2.1,VI c.2.2.2.2.1,VI c.2.2.2.2.2.1,VI c.2.2.2.2.2.2.1,Sl.v c.2.2.2.2.2.2.2]) λr=>
 aU (λ(x:(Int×Int×Int×Int×Int×Int×Int×Sl))=>[VI x.1,VI x.2.1,VI x.2.2.1,VI x.2.2.2.1,VI x.2.2.2.2.1,VI x.2.2.2.2.2.1,VI x.2.2.2.2.2.2.1,Sl.v x.2.2.2.2.2.2.2]) r o 8 λd=>
 Q (d.1,d.2.1,d.2.2.1,d.2.2.2.1,d.2.2.2.2.1,d.2.2.2.2.2.1,d.2.2.2.2.2.2.1,d.2.2.2.2.2.2.2) true r))
 λu=>
 aJ z
 (u true i)
 (aH (.int .i64) i (p.add 0) λB=>
 u (B==9) i))
 λt=>
 aJ (!E)
 (t true h)
 (aH (.int .i64) h (p.add 0) λC=>
 t (C==8) h))
 λI=>
 aH (.int .i64) g (a1.add 0) λk=>
 aH (.int .i64) g (a1.add 1) λl=>
 aH (.int .i64) g (a1.add 2) λm=>
 aH (.int .i64) g (a1.add 3) λn=>
 aH Sl.v g (a1.add 4) λD=>
 bc D g λF e=>
 ar e (a1.add 3) (VI n)<|
 ar e (a1.add 2) (VI m)<|
 ar e (a1.add 1) (VI l)<|
 ar e (a1.add 0) (VI k)<|
 ag e (row [VI 0,VI 0,VI 0,VI 0,VI 0,VI 0,VI 0,.slice none 0 0] 52) λs f=>
 ar f (a1.add 3) (VI n)<|
 ar f (a1.add 2) (VI m)<|
 ar f (a1.add 1) (VI l)<|
 ar f (a1.add 0) (VI k)<|
 aX f s ([VI k,VI p0,VI p1,VI l,VI m,VI n,VI 0,Sl.v F]) λw=>
 I s w
def iz (p0:Option Addr) (p1:(Int×Int×Int×Int×Sl)) (H:PH) (Q:Int->PH->Prop):Prop:=
 ag H (row [VI p1.1,VI p1.2.1,VI p1.2.2.1,VI p1.2.2.2.1,Sl.v p1.2.2.2.2] 46) λa1 e=>
 aJ (Option.isNone p0)
 (Q 1 e)
 (aM (λ(s5:Addr×Bool) (d:PH)=>
 aJ (!s5.2)
 (Q 1 d)
 (aN p0 λq=>
 aH (.int .i64) d (q.add 3) λB=>
 aN p0 λr=>
 aH (.int .i64) d (r.add 5) λC=>
 aJ (decide (400<=(IntKind.wrap .i64 (B-C))))
 (Q 6 d)
 (aH Sl.v d (s5.1.add 7) λD=>
 aX d (a1.add 4) ([Sl.v D]) λf=>
 aN p0 λi=>
 aH Sl.v f (i.add 6) λk=>
 aU (λ(x:(Int×Int×Int×Int×Sl))=>[VI x.1,VI x.2.1,VI x.2.2.1,VI x.2.2.2.1,Sl.v x.2.2.2.2]) f a1 5 λb=>
 bV f (row [VI b.1,VI b.2.1,VI b.2.2.1,VI b.2.2.2.1,Sl.v b.2.2.2.2] 46) 1 λz g=>
 ar g (i.add 6) (Sl.v k)<|
 fG g 46 5 56 [VI 0,VI 0,VI 0,VI 0,.slice none 0 0] k z λA l=>
 aN p0 λs=>
 aX l (s.add 6) ([Sl.v A]) λh=>
 aN p0 λt=>
 aH (.int .i64) h (t.add 3) λE=>
 aN p0 λu=>
 aX h (u.add 3) ([VI (IntKind.wrap .i64 (E+1))]) λm=>
 Q 0 m)))
 λJ=>
 aN p0 λw=>
 aH (.int .i64) e (w.add 0) λF=>
 aN p0 λy=>
 aH (.int .i64) e (y.add 3) λG=>
 aU (λ(x:(Int×Int×Int×Int×Sl))=>[VI x.1,VI x.2.1,VI x.2.2.1,VI x.2.2.2.1,Sl.v x.2.2.2.2]) e a1 5 λc=>
 uT F (IntKind.wrap .i64 (G+1)) (c.1,c.2.1,c.2.2.1,c.2.2.2.1,c.2.2.2.2) e λa I n=>
 ag n (row [VI 0,VI 0,VI 0,VI 0,VI 0,VI 0,VI 0,.slice none 0 0] 52) λj o=>
 aX o j ([VI a.1,VI a.2.1,VI a.2.2.1,VI a.2.2.2.1,VI a.2.2.2.2.1,VI a.2.2.2.2.2.1,VI a.2.2.2.2.2.2.1,Sl.v a.2.2.2.2.2.2.2]) λp=>
 J (j,I) p)
def mj (p0:Option Addr) (p1:Int) (p2:Sl) (H:PH) (Q:Int->PH->Prop):Prop:=
 iz p0 (1,p1,0,0,p2) H λa H1=>
 Q a H1
def dw (p0:Int) (p1:Int) (H:PH) (Q:(Int×Int)->PH->Prop):Prop:=
 ag H (row [VI 0,VI 0] 59) λa1 b=>
 aM (mK 1 (λf (s4:Int)=>f 0=VI s4/\f 1=VI p1/\f 4=VA a1) (λs4 e=>
 aX e a1 ([VI p1,VI s4]) λc=>
 aU (λ(x:(Int×Int))=>[VI x.1,VI x.2]) c a1 2 λa=>
 Q (a.1,a.2) c))
 λd=>
 aJ (p1 != 0)
 (d 0 b)
 (d p0 b)
def qV (p0:Option Addr) (H:PH) (Q:Int->PH->Prop):Prop:=
 aJ (Option.isNone p0)
 (Q 0 H)
 (aN p0 λa=>
 aH (.int .i64) H (a.add 2) λb=>
 Q b H)
def nI (p0:Option Addr) (H:PH) (Q:Int->PH->Prop):Prop:=
 qV p0 H λi H1=>
 iz p0 (3,0,0,IntKind.wrap .i64 (i+1),Sl.nil) H1 λb a=>
 aM (mK 1 (λj (s5:Unit)=>j 3=VI b) (λs5 h=>
 Q b h))
 λf=>
 aJ (b==0)
 (aN p0 λd=>
 aH (.int .i64) a (d.add 2) λg=>
 aN p0 λe=>
 aX a (e.add 2) ([VI (IntKind.wrap .i64 (g+1))]) λc=>
 f () c)
 (f () a)
def pX {γ:Type} (c0:Addr) (Y:List Value->γ->PH->(Nat->γ->PH->Prop)->Prop) (g:γ) (H:PH) (Q:Nat->γ->PH->Prop):Prop:=
 aH .pointer H c0 λu=>
 aJ (Option.isNone u)
 (Q (0,g).1 (0,g).2 H)
 (aH .pointer H c0 λw=>
 aN w λt=>
 aH (.int .i64) H (t.add 5) λy=>
 aH .pointer H c0 λq=>
 aN q λo=>
 aH Sl.v H (o.add 6) λl=>
 bp (λ(a:Int×(Nat×γ)) (h:PH) (f:(Int×(Nat×γ))->PH->Prop)=>
 aJ (decide (a.1<(l.len:Int)))
 (bX l 5 a.1 λp=>
 aU (λ(x:(Int×Int×Int×Int×Sl))=>[VI x.1,VI x.2.1,VI x.2.2.1,VI x.2.2.2.1,Sl.v x.2.2.2.2]) h p 5 λb=>
 ag h (row [VI 0,VI 0,VI 0,VI 0,.slice none 0 0] 46) λd m=>
 aX m d ([VI b.1,VI b.2.1,VI b.2.2.1,VI b.2.2.2.1,Sl.v b.2.2.2.2]) λi=>
 aH Sl.v i (d.add 4) λr=>
 bc r i λs n=>
 aX n (d.add 4) ([Sl.v s]) λj=>
 aU (λ(x:(Int×Int×Int×Int×Sl))=>[VI x.1,VI x.2.1,VI x.2.2.1,VI x.2.2.2.1,Sl.v x.2.2.2.2]) j d 5 λc=>
 sP Y a.2 [VI (IntKind.wrap .i64 ((IntKind.wrap .i64 (y+1))+a.1)),.agg ([VI c.1,VI c.2.1,VI c.2.2.1,VI c.2.2.2.1,Sl.v c.2.2.2.2]:List Value).toArray] j λe k=>
 aJ (!(e.1==0))
 (Q e.1 e.2 k)
 (f (IntKind.wrap .i64 (a.1+1),e) k))
 (Q a.2.1 a.2.2 h))
 (0,(0,g)) H)
def oG (p0:Option Addr) (H:PH) (Q:Value->PH->Prop):Prop:=
 ag H (row [.pointer p0] 72) λa1 a=>
 Q (.func (.func 271) #[] #[.pointer (some a1)]) a
def kc (p0:(Int×Int×Int×Int×Int×Int×Int×Sl)) (H:PH) (Q:Sl->Int->PH->Prop):Prop:=
 ag H (row [VI p0.1,VI p0.2.1,VI p0.2.2.1,VI p0.2.2.2.1,VI p0.2.2.2.2.1,VI p0.2.2.2.2.2.1,VI p0.2.2.2.2.2.2.1,Sl.v p0.2.2.2.2.2.2.2] 52) λa1 j=>
 aU (λ(x:(Int×Int×Int×Int×Int×Int×Int×Sl))=>[VI x.1,VI x.2.1,VI x.2.2.1,VI x.2.2.2.1,VI x.2.2.2.2.1,VI x.2.2.2.2.2.1,VI x.2.2.2.2.2.2.1,Sl.v x.2.2.2.2.2.2.2]) j a1 8 λb=>
 tO (b.1,b.2.1,b.2.2.1,b.2.2.2.1,b.2.2.2.2.1,b.2.2.2.2.2.1,b.2.2.2.2.2.2.1,b.2.2.2.2.2.2.2) j λI h=>
 aJ (!I)
 (Q Sl.nil 1 h)
 (aH Sl.v h (a1.add 7) λG=>
 qL (IntKind.wrap .i64 ((IntKind.wrap .i64 (21+(G.len:Int)))+4)) h λa f=>
 aH (.int .i64) f (a1.add 0) λu=>
 bV f (row [VI 75,VI 70,VI u] 3) 3 λq i=>
 bt a 1 q i λJ c=>
 aH (.int .i64) c (a1.add 1) λw=>
 aH (.int .i64) c (a1.add 2) λy=>
 bV c (row [VI w,VI y] 3) 2 λr k=>
 bt a 4 r k λK d=>
 aH (.int .i64) d (a1.add 3) λz=>
 aH (.int .i64) d (a1.add 4) λA=>
 bV d (row [VI z,VI A] 3) 2 λs l=>
 bt a 1 s l λL e=>
 aH (.int .i64) e (a1.add 5) λB=>
 aH (.int .i64) e (a1.add 6) λC=>
 bV e (row [VI B,VI C] 3) 2 λt m=>
 bt a 4 t m λM g=>
 aH Sl.v g (a1.add 7) λD=>
 sU a D g λN n=>
 fy a n λE o=>
 mF E o λF p=>
 Q F 0 p)
def oH (p0:Option Addr) (H:PH) (Q:Sl->PH->Prop):Prop:=
 ag H (row [.pointer p0] 72) λa1 H2=>
 ag H2 (row [.slice none 0 0] 192) λh w=>
 aH .pointer w a1 λx7=>
 oG x7 w λZ H9=>
 iH Tryz.prog Z (λ(q:List Value) (ab:Unit) (r:PH) (p:Nat->Unit->PH->Prop)=>
 ∃(g:Int) (a:(Int×Int×Int×Int×Sl)),q=[VI g,.agg ([VI a.1,VI a.2.1,VI a.2.2.1,VI a.2.2.2.1,Sl.v a.2.2.2.2]:List Value).toArray]/\
 ag r (row [VI 0,VI 0,VI 0,VI 0,.slice none 0 0] 46) λm s=>
 aX s m ([VI a.1,VI a.2.1,VI a.2.2.1,VI a.2.2.2.1,Sl.v a.2.2.2.2]) λb=>
 aH .pointer b a1 λM=>
 aN M λC=>
 aH (.int .i64) b (C.add 4) λN=>
 aM (λ(K:Bool) (e:PH)=>
 aJ K
 (p 0 () e)
 (aM (λ(L:Addr) (i:PH)=>
 aU (λ(x:(Int×Int×Int×Int×Int×Int×Int×Sl))=>[VI x.1,VI x.2.1,VI x.2.2.1,VI x.2.2.2.1,VI x.2.2.2.2.1,VI x.2.2.2.2.2.1,VI x.2.2.2.2.2.2.1,Sl.v x.2.2.2.2.2.2.2]) i L 8 λc=>
 kc (c.1,c.2.1,c.2.2.1,c.2.2.2.1,c.2.2.2.2.1,c.2.2.2.2.2.1,c.2.2.2.2.2.2.1,c.2.2.2.2.2.2.2) i λaa ad j=>
 aH Sl.v j h λO=>
 bV j (row [Sl.v aa] 44) 1 λI t=>
 fG t 44 1 24 [.slice none 0 0] O I λJ u=>
 aX u h ([Sl.v J]) λy=>
 p 0 () y)
 λG=>
 aH .pointer e a1 λP=>
 aN P λD=>
 aH (.int .i64) e (D.add 0) λR=>
 aU (λ(x:(Int×Int×Int×Int×Sl))=>[VI x.1,VI x.2.1,VI x.2.2.1,VI x.2.2.2.1,Sl.v x.2.2.2.2]) e m 5 λf=>
 uT R g (f.1,f.2.1,f.2.2.1,f.2.2.2.1,f.2.2.2.2) e λd ae z=>
 ag z (row [VI 0,VI 0,VI 0,VI 0,VI 0,VI 0,VI 0,.slice none 0 0] 52) λn A=>
 aX A n ([VI d.1,VI d.2.1,VI d.2.2.1,VI d.2.2.2.1,VI d.2.2.2.2.1,VI d.2.2.2.2.2.1,VI d.2.2.2.2.2.2.1,Sl.v d.2.2.2.2.2.2.2]) λB=>
 G n B))
 λo=>
 aJ (decide (g<=N))
 (o true b)
 (aH .pointer b a1 λS=>
 aN S λE=>
 aH (.int .i64) b (E.add 4) λT=>
 aH .pointer b a1 λU=>
 aN U λF=>
 aH (.int .i64) b (F.add 1) λV=>
 o (decide ((IntKind.wrap .i64 (T+V))<g)) b)) () H9 λ_ ac k=>
 aH Sl.v k h λX=>
 aX k h ([Sl.v X]) λl=>
 aH Sl.v l h λY=>
 Q Y l
def ot (p0:Option Addr) (p1:Sl) (H:PH) (Q:Int->PH->Prop):Prop:=
 aJ (Option.isNone p0)
 (Q 0 H)
 (bp (mL (λe (s2:Int)=>e 0=VP p0/\e 9=Sl.v p1/\e 10=VI (p1.len:Int)/\e 11=VI s2) (λs2 a c=>
 aJ (decide (s2<(p1.len:Int)))
 (aM (mB (λe (w:Unit)=>e 0=VP p0/\e 9=Sl.v p1/\e 10=VI (p1.len:Int)/\e 11=VI s2) (λw u=>
 c (IntKind.wrap .i64 (s2+1)) u))
 λn=>
 bX p1 1 s2 λj=>
 aH Sl.v a j λq=>
 aN p0 λk=>
 aH Sl.v a (k.add 0) λr=>
 aJ (decide ((r.len:Int)< 64))
 (mP [0,1,2]<|
 aN p0 λb=>
 mP [3,4]<|
 aH Sl.v a (b.add 0) λd=>
 mP [5,6]<|
 bc q a λt f=>
 ar f (b.add 0) (Sl.v d)<|
 mP [7]<|
 bV f (row [Sl.v t] 44) 1 λo g=>
 ar g (b.add 0) (Sl.v d)<|
 mP [8]<|
 fG g 44 1 24 [.slice none 0 0] d o λp h=>
 mP [9]<|
 aN p0 λl=>
 mP [10,11]<|
 aX h (l.add 0) ([Sl.v p]) λi=>
 n () i)
 (n () a))
 (aN p0 λm=>
 aH Sl.v a (m.add 0) λs=>
 Q (s.len:Int) a)))
 0 H)
def qF (p0:Option Addr) (H:PH) (Q:Int->PH->Prop):Prop:=
 aJ (Option.isNone p0)
 (Q 0 H)
 (aN p0 λa=>
 aH Sl.v H (a.add 0) λb=>
 Q (b.len:Int) H)
def vW (p0:Option Addr) (p1:Int) (H:PH) (Q:Bool->PH->Prop):Prop:=
 aM (mK 5 (λe (s2:Bool)=>e 12=VB s2) (λs2 b=>
 Q s2 b))
 λa=>
 aJ (decide (0<=p1))
 (qF p0 H λd c=>
 a (decide (p1<d)) c)
 (a false H)
def gZ (p0:Sl) (p1:Int) (p2:Int) (H:PH) (Q:Sl->PH->Prop):Prop:=
 PI p0 1 p1 p2 (p0.len:Int) λf=>
 aJ (p1==p2)
 (Q p0 H)
 (mP [0,1,2]<|
 kG p0 1 0 p1 λr5=>
 mP [3,4,5]<|
 kG p0 1 p2 (p0.len:Int) λe=>
 mP [6]<|
 fG H 44 1 24 [.slice none 0 0] r5 e λa d=>
 mP [7]<|
 kG a 1 (a.len:Int) (p0.len:Int) λc=>
 yP d 1 [.slice none 0 0] c λb=>
 Q a b)
def rn (p0:Option Addr) (p1:Int) (H:PH) (Q:Sl->Bool->PH->Prop):Prop:=
 vW p0 p1 H λk H1=>
 aJ (!k)
 (Q Sl.nil false H1)
 (aN p0 λh=>
 aH Sl.v H1 (h.add 0) λj=>
 bX j 1 p1 λi=>
 aH Sl.v H1 i λe=>
 aN p0 λc=>
 aH Sl.v H1 (c.add 0) λf=>
 gZ f p1 (IntKind.wrap .i64 (p1+1)) H1 λg a=>
 aN p0 λd=>
 aX a (d.add 0) ([Sl.v g]) λb=>
 Q e true b)
def qG (p0:Option Addr) (p1:Int) (H:PH) (Q:Sl->Bool->PH->Prop):Prop:=
 qF p0 H λa H1=>
 sV p1 (if a< 1 then 1 else a) H1 λd b=>
 rn p0 d b λe f c=>
 Q e f c
def rD (p0:Sl) (H:PH) (Q:(Int×Int×Int×Int×Int×Int×Int×Sl)->Int->PH->Prop):Prop:=
 ag H (row [VI 0,VI 0,VI 0,VI 0,VI 0,VI 0,VI 0,.slice none 0 0] 52) λa1 S=>
 lB p0 S λe T=>
 fI e 2 T λy7 y8 U=>
 ba e 1 U λE X V=>
 aX V (a1.add 0) ([VI E]) λm=>
 ba e 4 m λF Y n=>
 aX n (a1.add 1) ([VI F]) λo=>
 ba e 4 o λG Z p=>
 aX p (a1.add 2) ([VI G]) λq=>
 ba e 1 q λI aa r=>
 aX r (a1.add 3) ([VI I]) λs=>
 ba e 1 s λJ ab t=>
 aX t (a1.add 4) ([VI J]) λu=>
 ba e 4 u λK ac w=>
 aX w (a1.add 5) ([VI K]) λy=>
 ba e 4 y λL ad z=>
 aX z (a1.add 6) ([VI L]) λA=>
 jR e A λM B=>
 fI e (IntKind.wrap .i64 (M- 4)) B λN ae C=>
 aX C (a1.add 7) ([Sl.v N]) λh=>
 aU (λ(x:(Int×Int×Int×Int×Int×Int×Int×Sl))=>[VI x.1,VI x.2.1,VI x.2.2.1,VI x.2.2.2.1,VI x.2.2.2.2.1,VI x.2.2.2.2.2.1,VI x.2.2.2.2.2.2.1,Sl.v x.2.2.2.2.2.2.2]) h a1 8 λa=>
 kc (a.1,a.2.1,a.2.2.1,a.2.2.2.1,a.2.2.2.2.1,a.2.2.2.2.2.1,a.2.2.2.2.2.2.1,a.2.2.2.2.2.2.2) h λO P i=>
 aM (mK 5 (λρ (g:Bool)=>ρ 2=VA a1/\ρ 74=VB g) (λg f=>
 aJ g
 (aX f a1 ([VI 0,VI 0,VI 0,VI 0,VI 0,VI 0,VI 0,Sl.v Sl.nil]) λj=>
 aU (λ(x:(Int×Int×Int×Int×Int×Int×Int×Sl))=>[VI x.1,VI x.2.1,VI x.2.2.1,VI x.2.2.2.1,VI x.2.2.2.2.1,VI x.2.2.2.2.2.1,VI x.2.2.2.2.2.2.1,Sl.v x.2.2.2.2.2.2.2]) j a1 8 λb=>
 Q (b.1,b.2.1,b.2.2.1,b.2.2.2.1,b.2.2.2.2.1,b.2.2.2.2.2.1,b.2.2.2.2.2.2.1,b.2.2.2.2.2.2.2) 2 j)
 (aU (λ(x:(Int×Int×Int×Int×Int×Int×Int×Sl))=>[VI x.1,VI x.2.1,VI x.2.2.1,VI x.2.2.2.1,VI x.2.2.2.2.1,VI x.2.2.2.2.2.1,VI x.2.2.2.2.2.2.1,Sl.v x.2.2.2.2.2.2.2]) f a1 8 λc=>
 aX f a1 ([VI c.1,VI c.2.1,VI c.2.2.1,VI c.2.2.2.1,VI c.2.2.2.2.1,VI c.2.2.2.2.2.1,VI c.2.2.2.2.2.2.1,Sl.v c.2.2.2.2.2.2.2]) λk=>
 aU (λ(x:(Int×Int×Int×Int×Int×Int×Int×Sl))=>[VI x.1,VI x.2.1,VI x.2.2.1,VI x.2.2.2.1,VI x.2.2.2.2.1,VI x.2.2.2.2.2.1,VI x.2.2.2.2.2.2.1,Sl.v x.2.2.2.2.2.2.2]) k a1 8 λd=>
 Q (d.1,d.2.1,d.2.2.1,d.2.2.2.1,d.2.2.2.2.1,d.2.2.2.2.2.1,d.2.2.2.2.2.2.1,d.2.2.2.2.2.2.2) 0 k)))
 λl=>
 aJ (P != 0)
 (l true i)
 (gx O p0 i λR D=>
 l (!R) D)
def mO (p0:Option Addr) (H:PH) (Q:Option Addr->PH->Prop):Prop:=
 aJ (Option.isNone p0)
 (Q none H)
 (aN p0 λa=>
 aH .pointer H (a.add 0) λb=>
 Q b H)
def gJ (p0:Option Addr) (H:PH) (Q:Bool->PH->Prop):Prop:=
 aM (mK 5 (λe (s2:Bool)=>e 10=VB s2) (λs2 b=>
 Q s2 b))
 λa=>
 aJ (Option.isNone p0)
 (a true H)
 (aN p0 λc=>
 aH .bool H (c.add 6) λd=>
 a d H)
def kn (p0:Option Addr) (H:PH) (Q:Int->PH->Prop):Prop:=
 aM (mK 7 (λm (s2:Bool)=>m 0=VP p0/\m 13=VB s2) (λs2 b=>
 aJ s2
 (Q 3 b)
 (aN p0 λk=>
 aH .pointer b (k.add 0) λl=>
 fK l b λh a=>
 aJ (h.1 != 1)
 (Q 7 a)
 (Q 0 a))))
 λf=>
 aJ (Option.isNone p0)
 (f true H)
 (aN p0 λe=>
 aH .pointer H (e.add 0) λg=>
 mO g H λi c=>
 gJ i c λj d=>
 f j d)
def jw (p0:Option Addr) (p1:(Int×Int×Int×Int×Int×Int×Int×Sl)) (H:PH) (Q:Bool->PH->Prop):Prop:=
 ag H (row [VI p1.1,VI p1.2.1,VI p1.2.2.1,VI p1.2.2.2.1,VI p1.2.2.2.2.1,VI p1.2.2.2.2.2.1,VI p1.2.2.2.2.2.2.1,Sl.v p1.2.2.2.2.2.2.2] 52) λa1 a=>
 aH (.int .i64) a (a1.add 4) λg=>
 mP [0,1]<|
 aH (.int .i64) a (a1.add 0) λn=>
 mP [2,3]<|
 aM (mQ 67108863 [20,14,9,5,1] (λc (m:Bool)=>c 4=VB false/\c 34=VB m) (λm o=>
 mP [26]<|
 Q m o))
 λj=>
 aJ (n==8)
 (mP [4,5,6,7,8,9,10,11,12,13,14,15,16,17,18,19,20,21,22,23,24,25]<|
 j true a)
 (mP [4,5]<|
 aH (.int .i64) a (a1.add 0) λr=>
 mP [6,7]<|
 aM (mQ 4095 [9,5,1] (λc (d:Bool)=>c 0=VP p0/\c 3=VA a1/\c 4=VB false/\c 5=VI (if g< 1 then 1 else g)/\c 12=VB (n==8)/\c 20=VB d) (λd b=>
 mP [12]<|
 aM (mQ 33554431 [20,14,9,5,1] (λc (e:Bool)=>c 4=VB false/\c 12=VB (n==8)/\c 33=VB e) (λe p=>
 mP [25]<|
 j e p))
 λl=>
 aJ d
 (mP [13,14]<|
 aH (.int .i64) b (a1.add 3) λf=>
 mP [15,16,17,18]<|
 aN p0 λq=>
 mP [19,20]<|
 aH .pointer b (q.add 0) λs=>
 mP [21]<|
 jj s b λu h=>
 ar h (a1.add 3) (VI f)<|
 mP [22]<|
 gk u h λw i=>
 ar i (a1.add 3) (VI f)<|
 mP [23,24]<|
 l (decide (w<(IntKind.wrap .i64 (f+(if g< 1 then 1 else g))))) i)
 (mP [13,14,15,16,17,18,19,20,21,22,23,24]<|
 l false b)))
 λk=>
 aJ (r==1)
 (mP [8,9,10,11]<|
 k true a)
 (mP [8,9]<|
 aH (.int .i64) a (a1.add 0) λt=>
 mP [10,11]<|
 k (t==2) a))
def zL (p0:(Int×Int×Int×Int×Int×Int×Int×Sl)) (H:PH) (Q:(Int×Int×Int×Int×Sl)->Bool->PH->Prop):Prop:=
 ag H (row [VI p0.1,VI p0.2.1,VI p0.2.2.1,VI p0.2.2.2.1,VI p0.2.2.2.2.1,VI p0.2.2.2.2.2.1,VI p0.2.2.2.2.2.2.1,Sl.v p0.2.2.2.2.2.2.2] 52) λa1 B=>
 ag B (row [VI 0,VI 0,VI 0,VI 0,.slice none 0 0] 46) λf t=>
 aU (λ(x:(Int×Int×Int×Int×Int×Int×Int×Sl))=>[VI x.1,VI x.2.1,VI x.2.2.1,VI x.2.2.2.1,VI x.2.2.2.2.1,VI x.2.2.2.2.2.1,VI x.2.2.2.2.2.2.1,Sl.v x.2.2.2.2.2.2.2]) t a1 8 λe=>
 tO (e.1,e.2.1,e.2.2.1,e.2.2.2.1,e.2.2.2.2.1,e.2.2.2.2.2.1,e.2.2.2.2.2.2.1,e.2.2.2.2.2.2.2) t λz r=>
 aM (mK 4 (λs (h:Bool)=>s 1=VA a1/\s 2=VA f/\s 11=VB h) (λh g=>
 aM (mK 4 (λs (i:Bool)=>s 1=VA a1/\s 2=VA f/\s 16=VB i) (λi a=>
 aJ i
 (aX a f ([VI 0,VI 0,VI 0,VI 0,Sl.v Sl.nil]) λj=>
 aU (λ(x:(Int×Int×Int×Int×Sl))=>[VI x.1,VI x.2.1,VI x.2.2.1,VI x.2.2.2.1,Sl.v x.2.2.2.2]) j f 5 λc=>
 Q (c.1,c.2.1,c.2.2.1,c.2.2.2.1,c.2.2.2.2) false j)
 (mP [0,1]<|
 aH (.int .i64) a (a1.add 0) λn=>
 mP [2,3]<|
 aH (.int .i64) a (a1.add 3) λo=>
 mP [4,5]<|
 aH (.int .i64) a (a1.add 4) λp=>
 mP [6,7]<|
 aH (.int .i64) a (a1.add 5) λq=>
 mP [8,9]<|
 aH Sl.v a (a1.add 7) λu=>
 mP [10]<|
 bc u a λA b=>
 ar b (a1.add 5) (VI q)<|
 ar b (a1.add 4) (VI p)<|
 ar b (a1.add 3) (VI o)<|
 ar b (a1.add 0) (VI n)<|
 mP [11,12]<|
 aX b f ([VI n,VI o,VI p,VI q,Sl.v A]) λk=>
 mP [13]<|
 aU (λ(x:(Int×Int×Int×Int×Sl))=>[VI x.1,VI x.2.1,VI x.2.2.1,VI x.2.2.2.1,Sl.v x.2.2.2.2]) k f 5 λd=>
 Q (d.1,d.2.1,d.2.2.1,d.2.2.2.1,d.2.2.2.2) true k)))
 λm=>
 aJ h
 (m true g)
 (aH (.int .i64) g (a1.add 0) λw=>
 m (w==9) g)))
 λl=>
 aJ (!z)
 (l true r)
 (aH (.int .i64) r (a1.add 0) λy=>
 l (y==8) r)
def gR (p0:Option Addr) (H:PH) (Q:Bool->PH->Prop):Prop:=
 aM (mK 7 (λe (s2:Bool)=>e 12=VB s2) (λs2 b=>
 Q s2 b))
 λa=>
 aJ (Option.isNone p0)
 (a true H)
 (aN p0 λc=>
 aH Sl.v H (c.add 0) λd=>
 a ((d.len:Int)==0) H)
def fE (p0:Option Addr) (p1:Int) (H:PH) (Q:Option Addr->PH->Prop):Prop:=
 mP [0,1]<|
 aN p0 λa1=>
 mP [2,3]<|
 aH Sl.v H (a1.add 0) λd=>
 mP [4,5,6]<|
 aN p0 λc=>
 mP [7,8]<|
 aH Sl.v H (c.add 0) λb=>
 mP [9,10]<|
 xP (b.len:Int)<|
 mP [11]<|
 bX d 6 (Int.tmod p1 (b.len:Int)) λa=>
 mP [12]<|
 Q (some a) H
def jT (p0:Option Addr) (p1:Int) (p2:(Int×Int×Int×Int×Sl)) (H:PH) (Q:Int->PH->Prop):Prop:=
 ag H (row [VI p2.1,VI p2.2.1,VI p2.2.2.1,VI p2.2.2.2.1,Sl.v p2.2.2.2.2] 46) λa1 o=>
 gR p0 o λr b=>
 aJ r
 (Q 10 b)
 (aN p0 λp=>
 aH (.int .i64) b (p.add 1) λq=>
 aJ (decide (p1<q))
 (Q 9 b)
 (mP [0,1,2]<|
 aN p0 λf=>
 mP [3,4]<|
 aH (.int .i64) b (f.add 1) λj=>
 mP [5,6]<|
 aN p0 λg=>
 mP [7,8]<|
 aH Sl.v b (g.add 0) λk=>
 mP [9,10,11,12]<|
 aJ (decide ((IntKind.wrap .i64 (j+(k.len:Int)))<=p1))
 (Q 10 b)
 (fE p0 p1 b λm c=>
 aN m λh=>
 aH .bool c (h.add 5) λl=>
 aJ l
 (Q 9 c)
 (mP [0,1,3]<|
 aU (λ(x:(Int×Int×Int×Int×Sl))=>[VI x.1,VI x.2.1,VI x.2.2.1,VI x.2.2.2.1,Sl.v x.2.2.2.2]) c a1 5 λa=>
 mP [4,2]<|
 fE p0 p1 c λn d=>
 fU d a1 5 ([VI a.1,VI a.2.1,VI a.2.2.1,VI a.2.2.2.1,Sl.v a.2.2.2.2])<|
 mP [5]<|
 aN n λi=>
 mP [6]<|
 aX d i ([VI a.1,VI a.2.1,VI a.2.2.1,VI a.2.2.2.1,Sl.v a.2.2.2.2,.bool true]) λe=>
 Q 0 e))))
def eF (p0:Option Addr) (H:PH) (Q:(Int×Int×Int×Int×Sl)->Bool->PH->Prop):Prop:=
 ag H (row [VI 0,VI 0,VI 0,VI 0,.slice none 0 0] 46) λa1 o=>
 gR p0 o λp g=>
 aJ p
 (aU (λ(x:(Int×Int×Int×Int×Sl))=>[VI x.1,VI x.2.1,VI x.2.2.1,VI x.2.2.2.1,Sl.v x.2.2.2.2]) g a1 5 λf=>
 aX g a1 ([VI f.1,VI f.2.1,VI f.2.2.1,VI f.2.2.2.1,Sl.v f.2.2.2.2]) λk=>
 aU (λ(x:(Int×Int×Int×Int×Sl))=>[VI x.1,VI x.2.1,VI x.2.2.1,VI x.2.2.2.1,Sl.v x.2.2.2.2]) k a1 5 λa=>
 Q (a.1,a.2.1,a.2.2.1,a.2.2.2.1,a.2.2.2.2) false k)
 (aN p0 λl=>
 aH (.int .i64) g (l.add 1) λn=>
 fE p0 n g λj d=>
 mP [0,1]<|
 aN j λm=>
 mP [2,3]<|
 aU (λ(x:(Int×Int×Int×Int×Sl))=>[VI x.1,VI x.2.1,VI x.2.2.1,VI x.2.2.2.1,Sl.v x.2.2.2.2]) d (m.add 0) 5 λb=>
 mP [4,5]<|
 aN j λh=>
 mP [6,7]<|
 aH .bool d (h.add 5) λi=>
 mP [8]<|
 aX d a1 ([VI b.1,VI b.2.1,VI b.2.2.1,VI b.2.2.2.1,Sl.v b.2.2.2.2]) λe=>
 ar e (h.add 5) (.bool i)<|
 mP [9]<|
 aU (λ(x:(Int×Int×Int×Int×Sl))=>[VI x.1,VI x.2.1,VI x.2.2.1,VI x.2.2.2.1,Sl.v x.2.2.2.2]) e a1 5 λc=>
 Q (c.1,c.2.1,c.2.2.1,c.2.2.2.1,c.2.2.2.2) i e)
def nJ (p0:Option Addr) (p1:Int) (p2:Int) (H:PH) (Q:Bool->PH->Prop):Prop:=
 jj p0 H λm H1=>
 gk m H1 λd j=>
 aM (mK 4 (λc (h:Bool)=>c 1=VI p1/\c 2=VI p2/\c 7=VI d/\c 17=VB h) (λh k=>
 aM (mK 3 (λc (a:Bool)=>c 1=VI p1/\c 2=VI p2/\c 7=VI d/\c 21=VB a) (λa e=>
 aM (mK 6 (λc (b:Bool)=>c 28=VB b) (λb i=>
 Q b i))
 λg=>
 aJ a
 (g (decide (p1<=(IntKind.wrap .i64 (d-p2)))) e)
 (g false e)))
 λf=>
 aJ h
 (f (decide (0<=p1)) k)
 (f false k)))
 λl=>
 aJ (decide (1<=p2))
 (l (decide (p2<=d)) j)
 (l false j)
def ij (p0:Option Addr) (p1:Int) (p2:Bool) (H:PH) (Q:Int->PH->Prop):Prop:=
 aJ (Option.isNone p0)
 (Q 3 H)
 (aM (mK 8 (λi (s3:Bool)=>i 0=VP p0/\i 2=VB p2/\i 21=VB s3) (λs3 a=>
 aJ s3
 (Q 7 a)
 (aJ (!p2)
 (Q 1 a)
 (aN p0 λh=>
 aH .pointer a (h.add 0) λe=>
 gJ e a λg b=>
 aJ g
 (Q 3 b)
 (Q 0 b)))))
 λd=>
 aJ (p1 != 0)
 (aN p0 λc=>
 aH (.int .i64) H ((c.add 5).add 0) λf=>
 d (f != p1) H)
 (d false H))
def jm (p0:Int) (p1:Int) (H:PH) (Q:Int->PH->Prop):Prop:=
 Q (IntKind.wrap .i64 ((IntKind.wrap .i64 ((if p0< 1 then 1 else p0)+1))+p1)) H
def ke (p0:Option Addr) (p1:Int) (p2:Int) (p3:Int) (H:PH) (Q:Bool->PH->Prop):Prop:=
 mP [0,1,2]<|
 aM (mQ 16383 [9] (λi (s2:Bool)=>i 8=VB false/\i 22=VB s2) (λs2 h=>
 mP [14]<|
 Q s2 h))
 λd=>
 aJ (decide (p2<=6))
 (mP [3,4,6,7]<|
 aN p0 λc=>
 mP [8,9]<|
 aH .pointer H (c.add 1) λe=>
 mP [5]<|
 jm p1 p3 H λf a=>
 ar a (c.add 1) (.pointer e)<|
 mP [10]<|
 cU e a λg b=>
 mP [11,12,13]<|
 d (decide (f<g.2.2)) b)
 (mP [3,4,5,6,7,8,9,10,11,12,13]<|
 d false H)
def j0 (p0:Option Addr) (H:PH) (Q:Int->PH->Prop):Prop:=
 aN p0 λa1=>
 aH (.int .i64) H ((a1.add 3).add 1) λw=>
 aJ (decide (0<w))
 (Q 0 H)
 (mP [0,1]<|
 aN p0 λv=>
 mP [2,3,4]<|
 aH (.int .i64) H ((v.add 3).add 0) λx=>
 mP [5,6]<|
 aN p0 λi=>
 mP [7,8,9]<|
 aH (.int .i64) H ((i.add 3).add 4) λo=>
 mP [10,11]<|
 aN p0 λj=>
 mP [12,13,14]<|
 aH (.int .i64) H ((j.add 3).add 2) λp=>
 mP [15,16]<|
 aN p0 λk=>
 mP [17,18,19]<|
 aH (.int .i64) H ((k.add 3).add 3) λq=>
 mP [20,21]<|
 qM (x,o,p,q) H λt f a=>
 mP [22,23,24,25,26]<|
 aJ (f != 0)
 (Q f a)
 (mP [0,1]<|
 aN p0 λd=>
 mP [2,3]<|
 aH .pointer a (d.add 0) λe=>
 mP [4,5]<|
 aN p0 λl=>
 mP [6,7]<|
 aH .pointer a (l.add 1) λr=>
 mP [8,9]<|
 aN p0 λm=>
 mP [10,11,12]<|
 aH (.int .i64) a ((m.add 3).add 0) λs=>
 mP [14,13]<|
 fb r s a λu b=>
 ar b (d.add 0) (.pointer e)<|
 mP [15]<|
 fQ e u t b λg c=>
 mP [16]<|
 aJ (g != 0)
 (Q g c)
 (aN p0 λn=>
 aX c ((n.add 3).add 1) ([VI 1]) λh=>
 Q 0 h)))
def j1 (p0:Option Addr) (p1:Sl) (p2:Sl) (H:PH) (Q:Int->PH->Prop):Prop:=
 ag H (row [.pointer p0] 121) λa1 H2=>
 ag H2 (row [VI 0] 32) λn h=>
 aH .pointer h a1 λx7=>
 aN x7 λa9=>
 aH (.int .i64) h ((a9.add 3).add 4) λal=>
 aH .pointer h a1 λam=>
 aN am λab=>
 aH (.int .i64) h ((ab.add 3).add 2) λan=>
 aH .pointer h a1 λao=>
 aN ao λac=>
 aH (.int .i64) h ((ac.add 3).add 3) λap=>
 m7 (al,an,ap,p1,p2) h λaG aI B c=>
 aJ (B != 0)
 (aX c n ([VI B]) λw=>
 aH (.int .i64) w n λaq=>
 Q aq w)
 (aM (λ(s:Addr) (X:PH)=>
 fg aG 64 X λaK Y=>
 iH Tryz.prog aK (λ(M:List Value) (aL:Unit) (l:PH) (C:Nat->Unit->PH->Prop)=>
 ∃(y:Sl),M=[Sl.v y]/\
 aH .pointer l a1 λau=>
 aN au λad=>
 aH .pointer l (ad.add 0) λav=>
 aH (.int .i64) l s λaw=>
 fQ av aw y l λD q=>
 aJ (D != 0)
 (aX q n ([VI D]) λZ=>
 C 1 () Z)
 (aH (.int .i64) q s λax=>
 aX q s ([VI (IntKind.wrap .i64 (ax+1))]) λaa=>
 C 0 () aa)) () Y λak aO a=>
 aJ (ak==1)
 (aH (.int .i64) a n λO=>
 Q O a)
 (aH .pointer a a1 λay=>
 aN ay λae=>
 aH .pointer a (ae.add 2) λaz=>
 aH .pointer a a1 λaA=>
 aN aA λaf=>
 aH (.int .i64) a ((af.add 3).add 0) λaB=>
 aH .pointer a a1 λaC=>
 aN aC λah=>
 aH (.int .i64) a ((ah.add 3).add 2) λaD=>
 jh az aB aD a λd=>
 aH .pointer d a1 λz=>
 aH .pointer d a1 λu=>
 aH .pointer d a1 λm=>
 aH .pointer d a1 λaE=>
 aN aE λai=>
 aH (.int .i64) d ((ai.add 3).add 1) λaF=>
 aH .pointer d a1 λA=>
 aN A λx=>
 aH (.int .i64) d ((x.add 3).add 2) λt=>
 jm aF (p2.len:Int) d λU b=>
 ar b ((x.add 3).add 2) (VI t)<|
 ar b a1 (.pointer A)<|
 ar b a1 (.pointer m)<|
 ar b a1 (.pointer u)<|
 ar b a1 (.pointer z)<|
 aN z λG=>
 aX b ((G.add 3).add 1) ([VI U]) λe=>
 ar e a1 (.pointer m)<|
 ar e a1 (.pointer u)<|
 aN u λI=>
 aX e ((I.add 3).add 2) ([VI (IntKind.wrap .i64 (t+1))]) λo=>
 ar o a1 (.pointer m)<|
 aN m λJ=>
 aX o ((J.add 3).add 3) ([VI aI]) λE=>
 aX E n ([VI 0]) λp=>
 aH (.int .i64) p n λN=>
 Q N p))
 λaj=>
 aH .pointer c a1 λP=>
 aN P λK=>
 aH .pointer c (K.add 1) λR=>
 aH .pointer c a1 λS=>
 aN S λL=>
 aH (.int .i64) c ((L.add 3).add 0) λT=>
 aH .pointer c a1 λj=>
 aN j λi=>
 aH (.int .i64) c ((i.add 3).add 1) λk=>
 fb R T c λV f=>
 ar f ((i.add 3).add 1) (VI k)<|
 ar f a1 (.pointer j)<|
 ag f (row [VI 0] 3) λr g=>
 ar g ((i.add 3).add 1) (VI k)<|
 ar g a1 (.pointer j)<|
 aX g r ([VI (IntKind.wrap .i64 (V+k))]) λF=>
 aj r F)
def gm (p0:Option Addr) (H:PH) (Q:Int->PH->Prop):Prop:=
 aJ (Option.isNone p0)
 (Q 1 H)
 (aN p0 λo=>
 aH .pointer H (o.add 0) λq=>
 gJ q H λr b=>
 aJ r
 (Q 3 b)
 (aN p0 λp=>
 aH Sl.v b (p.add 8) λl=>
 aJ ((l.len:Int)==0)
 (Q 0 b)
 (j0 p0 b λd a=>
 aJ (d != 0)
 (Q d a)
 (mP [0,1,2]<|
 aN p0 λh=>
 mP [3,4]<|
 aH Sl.v a (h.add 8) λm=>
 mP [5,6]<|
 aN p0 λi=>
 mP [7,8]<|
 aH Sl.v a (i.add 9) λn=>
 mP [9]<|
 j1 p0 m n a λe c=>
 mP [10]<|
 aJ (e != 0)
 (Q e c)
 (aN p0 λj=>
 aX c (j.add 8) ([Sl.v Sl.nil]) λf=>
 aN p0 λk=>
 aX f (k.add 9) ([Sl.v Sl.nil]) λg=>
 Q 0 g)))))
def dx (p0:Sl) (p1:Value) (H:PH) (Q:Int->PH->Prop):Prop:=
 bp (λ(s1:Int) (d:PH) (a:Int->PH->Prop)=>
 aJ (decide (s1<(p0.len:Int)))
 (bX p0 2 s1 λg=>
 aU (λ(x:(Int×Int))=>[VI x.1,VI x.2]) d g 2 λf=>
 ue Tryz.prog p1 [.agg ([VI f.1,VI f.2]:List Value).toArray] d λe b=>
 ∃(c:Bool),e= .bool c/\
 aJ c
 (Q s1 b)
 (a (IntKind.wrap .i64 (s1+1)) b))
 (Q (-1) d))
 0 H
def pY (p0:Option Addr) (p1:Bool) (H:PH) (Q:Int->Bool->PH->Prop):Prop:=
 aM (mK 8 (λf (s2:Bool)=>f 0=VP p0/\f 17=VB s2) (λs2 e=>
 aJ s2
 (Q 0 false e)
 (aN p0 λm=>
 aH Sl.v e (m.add 1) λn=>
 dx n (.func (.func 323) #[] #[]) e λd g=>
 kL p0 d g λk b=>
 aJ (!k)
 (Q 0 false b)
 (Q d true b))))
 λj=>
 aJ (Option.isNone p0)
 (j true H)
 (aM (mK 4 (λf (a:Bool)=>f 0=VP p0/\f 9=VB (Option.isNone p0)/\f 16=VB a) (λa h=>
 j a h))
 λc=>
 aJ (!p1)
 (kN p0 H λl i=>
 c (decide (l<=2)) i)
 (c false H))
def nK (p0:Option Addr) (p1:Int) (H:PH) (Q:Int->PH->Prop):Prop:=
 aN p0 λa1=>
 aH (.int .i64) H ((a1.add 3).add 0) λm=>
 bV H (row [VI 7,VI 0,VI 0,VI p1] 230) 1 λr5 l=>
 j1 p0 r5 Sl.nil l λk a=>
 aJ (k != 0)
 (Q k a)
 (aN p0 λf=>
 aH .pointer a (f.add 2) λi=>
 kM i m a λb=>
 aN p0 λg=>
 aX b ((g.add 3).add 0) ([VI p1]) λc=>
 aN p0 λh=>
 aX c ((h.add 3).add 1) ([VI 0]) λd=>
 j0 p0 d λj e=>
 Q j e)
def nL (p0:Option Addr) (p1:Int) (p2:Bool) (H:PH) (Q:Int->PH->Prop):Prop:=
 mP [0,1,2]<|
 aN p0 λa1=>
 mP [3,4,5]<|
 aH (.int .i64) H ((a1.add 3).add 1) λF=>
 mP [6,7]<|
 aN p0 λD=>
 mP [8,9]<|
 aH Sl.v H (D.add 8) λG=>
 mP [10,11,12,13]<|
 aN p0 λE=>
 mP [14,15]<|
 aH Sl.v H (E.add 9) λq=>
 mP [16,17,18,19]<|
 ke p0 F (IntKind.wrap .i64 ((G.len:Int)+1)) (IntKind.wrap .i64 ((q.len:Int)+p1)) H λu a=>
 aJ u
 (Q 0 a)
 (aN p0 λm=>
 aH (.int .i64) a ((m.add 3).add 1) λg=>
 aN p0 λn=>
 aH Sl.v a (n.add 8) λr=>
 aM (mK 1 (λC (c:Int)=>C 0=VP p0/\C 1=VI p1/\C 2=VB p2/\C 7=VI c) (λc i=>
 ke p0 c 1 p1 i λw b=>
 aJ w
 (gm p0 b λx j=>
 Q x j)
 (aN p0 λo=>
 aH .pointer b (o.add 2) λs=>
 pY s p2 b λy z d=>
 aJ (!z)
 (Q 6 d)
 (gm p0 d λh e=>
 aJ (h != 0)
 (Q h e)
 (nK p0 y e λA k=>
 Q A k)))))
 λf=>
 aJ (decide (0<(r.len:Int)))
 (aN p0 λp=>
 aH Sl.v a (p.add 9) λt=>
 jm g (t.len:Int) a λB l=>
 f B l)
 (f g a))
def kA (p0:Option Addr) (H:PH) (Q:Int->PH->Prop):Prop:=
 mP [0,1]<|
 aN p0 λa1=>
 mP [2,3]<|
 aH .pointer H (a1.add 1) λh=>
 mP [4,5]<|
 aN p0 λg=>
 mP [6,7,8]<|
 aH (.int .i64) H ((g.add 3).add 0) λi=>
 mP [10,11]<|
 aN p0 λd=>
 mP [12,13,14]<|
 aH (.int .i64) H ((d.add 3).add 1) λb=>
 mP [9]<|
 fb h i H λe a=>
 ar a ((d.add 3).add 1) (VI b)<|
 mP [15]<|
 jm b 0 a λf c=>
 mP [16,17]<|
 Q (IntKind.wrap .i64 (e+f)) c
def lJ (p0:Option Addr) (p1:(Int×Int×Int×Int)) (p2:Sl) (p3:Bool) (H:PH) (Q:Int->Int->PH->Prop):Prop:=
 ag H (row [VI p1.1,VI p1.2.1,VI p1.2.2.1,VI p1.2.2.2] 230) λa1 J=>
 aU (λ(x:(Int×Int×Int×Int))=>[VI x.1,VI x.2.1,VI x.2.2.1,VI x.2.2.2]) J a1 4 λp=>
 nt (p.1,p.2.1,p.2.2.1,p.2.2.2) J λy7 M=>
 aM (mK 1 (λa (b:Int)=>a 0=VP p0/\a 2=Sl.v p2/\a 3=VB p3/\a 5=VA a1/\a 8=VI 0/\a 10=VI b) (λb f=>
 aM (mK 4 (λa (k:Bool)=>a 0=VP p0/\a 2=Sl.v p2/\a 3=VB p3/\a 5=VA a1/\a 8=VI 0/\a 10=VI b/\a 21=VB k) (λk g=>
 aM (mK 4 (λa (l:Bool)=>a 0=VP p0/\a 2=Sl.v p2/\a 3=VB p3/\a 5=VA a1/\a 8=VI 0/\a 10=VI b/\a 26=VB l) (λl q=>
 aM (mK 5 (λa (m:Bool)=>a 0=VP p0/\a 2=Sl.v p2/\a 3=VB p3/\a 5=VA a1/\a 8=VI 0/\a 10=VI b/\a 32=VB m) (λm h=>
 aJ m
 (Q 0 1 h)
 (aN p0 λP=>
 aH .pointer h (P.add 0) λZ=>
 gJ Z h λab r=>
 aJ ab
 (Q 0 3 r)
 (nL p0 (IntKind.wrap .i64 (Int.tdiv b 64)) p3 r λI c=>
 aJ (I != 0)
 (Q 0 I c)
 (aM (mK 1 (λa (n:Int)=>a 0=VP p0/\a 5=VA a1/\a 8=VI n) (λn i=>
 mP [0,1,2]<|
 aN p0 λz=>
 mP [3,4]<|
 aH Sl.v i (z.add 8) λF=>
 mP [5]<|
 aU (λ(x:(Int×Int×Int×Int))=>[VI x.1,VI x.2.1,VI x.2.2.1,VI x.2.2.2]) i a1 4 λd=>
 mP [6]<|
 bV i (row [VI d.1,VI d.2.1,VI d.2.2.1,VI d.2.2.2] 230) 1 λU s=>
 ar s (z.add 8) (Sl.v F)<|
 mP [7]<|
 fG s 230 4 32 [VI 0,VI 0,VI 0,VI 0] F U λV K=>
 mP [8]<|
 aN p0 λR=>
 mP [9,10]<|
 aX K (R.add 8) ([Sl.v V]) λL=>
 Q n 0 L))
 λE=>
 aJ (decide (0<b))
 (mP [0,1,2]<|
 aN p0 λj=>
 mP [3,4]<|
 aH Sl.v c (j.add 9) λo=>
 mP [5,6]<|
 bc p2 c λac t=>
 ar t (j.add 9) (Sl.v o)<|
 mP [7]<|
 bV t (row [Sl.v ac] 44) 1 λX u=>
 ar u (j.add 9) (Sl.v o)<|
 mP [8]<|
 fG u 44 1 24 [.slice none 0 0] o X λY N=>
 mP [9]<|
 aN p0 λS=>
 mP [10,11]<|
 aX N (S.add 9) ([Sl.v Y]) λw=>
 mP [0,2,3]<|
 aN p0 λA=>
 mP [4,5]<|
 aH Sl.v w (A.add 9) λG=>
 mP [6,1]<|
 kA p0 w λad y=>
 ar y (A.add 9) (Sl.v G)<|
 mP [7,8,9]<|
 E (IntKind.wrap .i64 ((IntKind.wrap .i64 (ad+(G.len:Int)))- 1)) y)
 (E 0 c))))))
 λD=>
 aJ l
 (D true q)
 (D ((p2.len:Int) != b) q)))
 λC=>
 aJ k
 (C true g)
 (aH (.int .i64) g (a1.add 0) λaa=>
 C (aa==7) g)))
 λB=>
 aJ (Option.isNone p0)
 (B true f)
 (aU (λ(x:(Int×Int×Int×Int))=>[VI x.1,VI x.2.1,VI x.2.2.1,VI x.2.2.2]) f a1 4 λe=>
 tD (e.1,e.2.1,e.2.2.1,e.2.2.2) f λae O=>
 B (!ae) O)))
 λT=>
 aJ y7
 (T 64 M)
 (T 0 M)
def kO (p0:Option Addr) (p1:Int) (p2:Sl) (H:PH) (Q:PH->Prop):Prop:=
 aN p0 λa1=>
 aH .pointer H (a1.add 2) λn=>
 km n p1 1 H λp m=>
 bp (mL (λd (b:Int)=>d 0=VP p0/\d 14=Sl.v p2/\d 15=VI (p2.len:Int)/\d 16=VI b) (λb a c=>
 aJ (decide (b<(p2.len:Int)))
 (aM (mB (λd (k:Unit)=>d 0=VP p0/\d 14=Sl.v p2/\d 15=VI (p2.len:Int)/\d 16=VI b) (λk g=>
 c (IntKind.wrap .i64 (b+1)) g))
 λe=>
 bX p2 1 b λi=>
 aH (.int .i64) a i λf=>
 aJ (decide (0<f))
 (aN p0 λj=>
 aH .pointer a (j.add 2) λl=>
 km l f (-1) a λo h=>
 e () h)
 (e () a))
 (Q a)))
 0 m
def oI (p0:Option Addr) (p1:Int) (p2:Sl) (H:PH) (Q:Int->PH->Prop):Prop:=
 nJ p0 p1 1 H λw H1=>
 aM (mK 4 (λt (s4:Bool)=>t 0=VP p0/\t 1=VI p1/\t 2=Sl.v p2/\t 12=VP p0/\t 20=VB s4) (λs4 u=>
 ij p0 1 s4 u λs e=>
 aJ (s != 0)
 (Q s e)
 (aN p0 λi=>
 aH .pointer e (i.add 4) λo=>
 lJ o (1,p1,0,0) p2 false e λc d a=>
 aJ (d != 0)
 (Q d a)
 (aN p0 λj=>
 aH (.int .i64) a ((j.add 5).add 3) λp=>
 aN p0 λk=>
 aX a ((k.add 5).add 3) ([VI (IntKind.wrap .i64 (p+1))]) λb=>
 aN p0 λl=>
 aH .pointer b (l.add 3) λq=>
 oD q p1 c b λr x f=>
 bV f (row [VI r] 3) 1 λn g=>
 kO p0 c n g λh=>
 Q 0 h))))
 λm=>
 aJ w
 (m ((p2.len:Int)==64) H1)
 (m false H1)
def oJ (p0:Option Addr) (H:PH) (Q:Int->PH->Prop):Prop:=
 aN p0 λa1=>
 aH .pointer H (a1.add 4) λg=>
 gm g H λe a=>
 aJ (e != 0)
 (Q e a)
 (aN p0 λf=>
 aH .pointer a (f.add 0) λc=>
 fR c a λd b=>
 Q d b)
def pZ (p0:Option Addr) (p1:Int) (H:PH) (Q:Int->PH->Prop):Prop:=
 aM (mK 9 (λz (s2:Bool)=>z 0=VP p0/\z 1=VI p1/\z 9=VP p0/\z 21=VB s2) (λs2 A=>
 ij p0 1 s2 A λy g=>
 aJ (y != 0)
 (Q y g)
 (aN p0 λB=>
 aH .pointer g (B.add 4) λs=>
 lJ s (3,0,0,p1) Sl.nil false g λC e b=>
 aJ (e != 0)
 (Q e b)
 (oJ p0 b λf a=>
 aJ (f != 0)
 (Q f a)
 (aN p0 λk=>
 aH (.int .i64) a ((k.add 5).add 3) λt=>
 aN p0 λl=>
 aX a ((l.add 5).add 2) ([VI p1]) λh=>
 aN p0 λm=>
 aX h ((m.add 5).add 3) ([VI (IntKind.wrap .i64 (t+1))]) λc=>
 aN p0 λn=>
 aH (.int .i64) c ((n.add 5).add 3) λu=>
 aN p0 λo=>
 aX c ((o.add 5).add 4) ([VI u]) λd=>
 aN p0 λp=>
 aH .pointer d (p.add 3) λv=>
 kb v d λx i=>
 kO p0 0 x i λj=>
 Q 0 j)))))
 λr=>
 aJ (!(Option.isNone p0))
 (aN p0 λq=>
 aH (.int .i64) H ((q.add 5).add 2) λw=>
 r (p1==(IntKind.wrap .i64 (w+1))) H)
 (r false H)
def la (p0:Option Addr) (p1:(Int×Int×Int×Int×Sl)) (H:PH) (Q:Int->PH->Prop):Prop:=
 ag H (row [VI p1.1,VI p1.2.1,VI p1.2.2.1,VI p1.2.2.2.1,Sl.v p1.2.2.2.2] 46) λa1 a=>
 aH (.int .i64) a (a1.add 0) λi=>
 aJ (i==1)
 (mP [0,1]<|
 aN p0 λl=>
 mP [2,3]<|
 aH .pointer a (l.add 0) λm=>
 mP [4,5]<|
 aH (.int .i64) a (a1.add 1) λe=>
 mP [6,7]<|
 aH Sl.v a (a1.add 4) λf=>
 mP [8]<|
 oI m e f a λj b=>
 mP [9]<|
 Q j b)
 (aJ (i==2)
 (False)
 (mP [0,1]<|
 aN p0 λd=>
 mP [2,3]<|
 aH .pointer a (d.add 0) λg=>
 mP [4,5]<|
 aH (.int .i64) a (a1.add 3) λh=>
 mP [6]<|
 pZ g h a λk c=>
 mP [7]<|
 Q k c))
def gn (p0:Option Addr) (H:PH) (Q:Bool->PH->Prop):Prop:=
 eF p0 H λa d H1=>
 ag H1 (row [VI 0,VI 0,VI 0,VI 0,.slice none 0 0] 46) λm l=>
 aX l m ([VI a.1,VI a.2.1,VI a.2.2.1,VI a.2.2.2.1,Sl.v a.2.2.2.2]) λc=>
 aM (mK 1 (λo (n:Unit)=>o 4=VB d) (λn e=>
 Q d e))
 λb=>
 aJ d
 (aN p0 λh=>
 aH (.int .i64) c (h.add 1) λj=>
 fE p0 j c λk f=>
 aN k λi=>
 aX f i ([VI 0,VI 0,VI 0,VI 0,Sl.v Sl.nil,.bool false]) λg=>
 b () g)
 (b () c)
def jU (p0:Option Addr) (H:PH) (Q:(Int×Int×Int×Int×Sl)->Bool->PH->Prop):Prop:=
 ag H (row [VI 0,VI 0,VI 0,VI 0,.slice none 0 0] 46) λa1 q=>
 eF p0 q λd p r=>
 ag r (row [VI 0,VI 0,VI 0,VI 0,.slice none 0 0] 46) λh s=>
 aX s h ([VI d.1,VI d.2.1,VI d.2.2.1,VI d.2.2.2.1,Sl.v d.2.2.2.2]) λi=>
 gn p0 i λo c=>
 aM (mK 1 (λt (m:Unit)=>t 2=VA a1/\t 4=VA h/\t 5=VB p) (λm e=>
 aU (λ(x:(Int×Int×Int×Int×Sl))=>[VI x.1,VI x.2.1,VI x.2.2.1,VI x.2.2.2.1,Sl.v x.2.2.2.2]) e h 5 λa=>
 aX e a1 ([VI a.1,VI a.2.1,VI a.2.2.1,VI a.2.2.2.1,Sl.v a.2.2.2.2]) λf=>
 aU (λ(x:(Int×Int×Int×Int×Sl))=>[VI x.1,VI x.2.1,VI x.2.2.1,VI x.2.2.2.1,Sl.v x.2.2.2.2]) f a1 5 λb=>
 Q (b.1,b.2.1,b.2.2.1,b.2.2.2.1,b.2.2.2.2) p f))
 λg=>
 aJ o
 (aN p0 λk=>
 aH (.int .i64) c (k.add 1) λn=>
 aN p0 λl=>
 aX c (l.add 1) ([VI (IntKind.wrap .i64 (n+1))]) λj=>
 g () j)
 (g () c)
def iQ (p0:Option Addr) (H:PH) (Q:Sl->Int->PH->Prop):Prop:=
 aN p0 λa1=>
 aH .pointer H (a1.add 0) λm=>
 fK m H λa k=>
 ag k (row (List.replicate 10 (VI 0)) 61) λc l=>
 aX l c ([VI a.1,VI a.2.1,VI a.2.2.1,VI a.2.2.2.1,VI a.2.2.2.2.1,VI a.2.2.2.2.2.1,VI a.2.2.2.2.2.2.1,VI a.2.2.2.2.2.2.2.1,VI a.2.2.2.2.2.2.2.2.1,VI a.2.2.2.2.2.2.2.2.2]) λb=>
 aH (.int .i64) b (c.add 1) λe=>
 aH (.int .i64) b (c.add 3) λf=>
 aH (.int .i64) b (c.add 2) λg=>
 aH (.int .i64) b (c.add 4) λh=>
 kc (8,e,f,0,0,g,h,Sl.nil) b λi j d=>
 Q i j d
def nM (p0:Option Addr) (H:PH) (Q:Sl->Int->PH->Prop):Prop:=
 aN p0 λa1=>
 aH .pointer H (a1.add 1) λL=>
 eF L H λk M J=>
 ag J (row [VI 0,VI 0,VI 0,VI 0,.slice none 0 0] 46) λA K=>
 aX K A ([VI k.1,VI k.2.1,VI k.2.2.1,VI k.2.2.2.1,Sl.v k.2.2.2.2]) λp=>
 bp (mL (λo (a:Addr×Bool)=>o 0=VP p0/\o 4=VA (a.1)/\o 5=VB a.2) (λa g f=>
 aJ a.2
 (aU (λ(x:(Int×Int×Int×Int×Sl))=>[VI x.1,VI x.2.1,VI x.2.2.1,VI x.2.2.2.1,Sl.v x.2.2.2.2]) g a.1 5 λb=>
 la p0 (b.1,b.2.1,b.2.2.1,b.2.2.2.1,b.2.2.2.2) g λe h=>
 aM (mK 1 (λo (B:Unit)=>o 0=VP p0/\o 4=VA (a.1)/\o 6=VI e) (λB i=>
 aJ (e != 0)
 (Q Sl.nil e i)
 (aN p0 λw=>
 aH .pointer i (w.add 1) λC=>
 jU C i λN O l=>
 aU (λ(x:(Int×Int×Int×Int×Sl))=>[VI x.1,VI x.2.1,VI x.2.2.1,VI x.2.2.2.1,Sl.v x.2.2.2.2]) l a.1 5 λc=>
 ag l (row [VI 0,VI 0,VI 0,VI 0,.slice none 0 0] 46) λj q=>
 aX q j ([VI c.1,VI c.2.1,VI c.2.2.1,VI c.2.2.2.1,Sl.v c.2.2.2.2]) λm=>
 aN p0 λy=>
 aH .pointer m (y.add 1) λD=>
 eF D m λd F r=>
 aX r j ([VI d.1,VI d.2.1,VI d.2.2.1,VI d.2.2.2.1,Sl.v d.2.2.2.2]) λs=>
 f (j,F) s)))
 λn=>
 aJ (e==1)
 (aN p0 λz=>
 aH .pointer h (z.add 1) λE=>
 gn E h λP t=>
 n () t)
 (n () h))
 (iQ p0 g λG I u=>
 Q G I u)))
 (A,M) p
def jV (p0:Option Addr) (p1:Sl) (H:PH) (Q:Sl->Int->PH->Prop):Prop:=
 rD p1 H λe E H1=>
 ag H1 (row [VI 0,VI 0,VI 0,VI 0,VI 0,VI 0,VI 0,.slice none 0 0] 52) λg J=>
 aX J g ([VI e.1,VI e.2.1,VI e.2.2.1,VI e.2.2.2.1,VI e.2.2.2.2.1,VI e.2.2.2.2.2.1,VI e.2.2.2.2.2.2.1,Sl.v e.2.2.2.2.2.2.2]) λt=>
 aJ (E != 0)
 (Q Sl.nil E t)
 (kn p0 t λo k=>
 aJ (o != 0)
 (Q Sl.nil o k)
 (aU (λ(x:(Int×Int×Int×Int×Int×Int×Int×Sl))=>[VI x.1,VI x.2.1,VI x.2.2.1,VI x.2.2.2.1,VI x.2.2.2.2.1,VI x.2.2.2.2.2.1,VI x.2.2.2.2.2.2.1,Sl.v x.2.2.2.2.2.2.2]) k g 8 λa=>
 jw p0 (a.1,a.2.1,a.2.2.1,a.2.2.2.1,a.2.2.2.2.1,a.2.2.2.2.2.1,a.2.2.2.2.2.2.1,a.2.2.2.2.2.2.2) k λC c=>
 aJ C
 (Q Sl.nil 1 c)
 (aH (.int .i64) c (g.add 0) λy=>
 aJ (y==9)
 (False)
 (mP [0,1]<|
 aH (.int .i64) c (g.add 1) λn=>
 mP [2,3]<|
 aN p0 λu=>
 mP [4,5]<|
 aH .pointer c (u.add 0) λz=>
 mP [6]<|
 fK z c λD h=>
 ar h (g.add 1) (VI n)<|
 mP [7,8,9]<|
 aJ (n != D.2.1)
 (Q Sl.nil 8 h)
 (aU (λ(x:(Int×Int×Int×Int×Int×Int×Int×Sl))=>[VI x.1,VI x.2.1,VI x.2.2.1,VI x.2.2.2.1,VI x.2.2.2.2.1,VI x.2.2.2.2.2.1,VI x.2.2.2.2.2.2.1,Sl.v x.2.2.2.2.2.2.2]) h g 8 λb=>
 zL (b.1,b.2.1,b.2.2.1,b.2.2.2.1,b.2.2.2.2.1,b.2.2.2.2.2.1,b.2.2.2.2.2.2.1,b.2.2.2.2.2.2.2) h λf K p=>
 ag p (row [VI 0,VI 0,VI 0,VI 0,.slice none 0 0] 46) λm q=>
 aX q m ([VI f.1,VI f.2.1,VI f.2.2.1,VI f.2.2.2.1,Sl.v f.2.2.2.2]) λi=>
 mP [0,1]<|
 aN p0 λw=>
 mP [2,3]<|
 aH .pointer i (w.add 1) λA=>
 mP [4,5]<|
 aH (.int .i64) i (g.add 2) λB=>
 mP [6]<|
 aU (λ(x:(Int×Int×Int×Int×Sl))=>[VI x.1,VI x.2.1,VI x.2.2.1,VI x.2.2.2.1,Sl.v x.2.2.2.2]) i m 5 λd=>
 mP [7]<|
 jT A B (d.1,d.2.1,d.2.2.1,d.2.2.2.1,d.2.2.2.2) i λj l=>
 mP [8]<|
 aJ (j==0)
 (nM p0 l λF G r=>
 Q F G r)
 (aJ (j==9)
 (iQ p0 l λI L s=>
 Q I j s)
 (Q Sl.nil j l)))))))
def mR (p0:Option Addr) (p1:Sl) (H:PH) (Q:Sl->Int->PH->Prop):Prop:=
 qg p0 H λb H1=>
 jV b p1 H1 λc d a=>
 Q c d a
def fL (p0:Option Addr) (H:PH) (Q:(Int×Int×Int×Int×Int×Int×Int×Int×Int×Int)->PH->Prop):Prop:=
 ag H (row (List.replicate 10 (VI 0)) 61) λa1 d=>
 fX p0 d λg e=>
 fK g e λb f=>
 aX f a1 ([VI b.1,VI b.2.1,VI b.2.2.1,VI b.2.2.2.1,VI b.2.2.2.2.1,VI b.2.2.2.2.2.1,VI b.2.2.2.2.2.2.1,VI b.2.2.2.2.2.2.2.1,VI b.2.2.2.2.2.2.2.2.1,VI b.2.2.2.2.2.2.2.2.2]) λc=>
 aU (λ(x:(Int×Int×Int×Int×Int×Int×Int×Int×Int×Int))=>[VI x.1,VI x.2.1,VI x.2.2.1,VI x.2.2.2.1,VI x.2.2.2.2.1,VI x.2.2.2.2.2.1,VI x.2.2.2.2.2.2.1,VI x.2.2.2.2.2.2.2.1,VI x.2.2.2.2.2.2.2.2.1,VI x.2.2.2.2.2.2.2.2.2]) c a1 10 λa=>
 Q (a.1,a.2.1,a.2.2.1,a.2.2.2.1,a.2.2.2.2.1,a.2.2.2.2.2.1,a.2.2.2.2.2.2.1,a.2.2.2.2.2.2.2.1,a.2.2.2.2.2.2.2.2.1,a.2.2.2.2.2.2.2.2.2) c
def ld (p0:Option Addr) (p1:Int) (H:PH) (Q:(Int×Int)->PH->Prop):Prop:=
 ag H (row [VI 0,VI 0] 59) λa1 q=>
 aN p0 λL=>
 aH .pointer q (L.add 4) λM=>
 qG M p1 q λN J b=>
 aJ (!J)
 (dw 0 5 b λk p=>
 aX p a1 ([VI k.1,VI k.2]) λc=>
 aU (λ(x:(Int×Int))=>[VI x.1,VI x.2]) c a1 2 λh=>
 Q (h.1,h.2) c)
 (aN p0 λy=>
 aH .pointer b (y.add 2) λE=>
 aJ (Option.isNone E)
 (dw 0 3 b λl r=>
 aX r a1 ([VI l.1,VI l.2]) λd=>
 aU (λ(x:(Int×Int))=>[VI x.1,VI x.2]) d a1 2 λi=>
 Q (i.1,i.2) d)
 (aN p0 λz=>
 aH .pointer b (z.add 2) λF=>
 mR F N b λm n a=>
 aM (mK 1 (λO (D:Unit)=>O 0=VP p0/\O 4=VA a1/\O 8=VI n) (λD e=>
 aN p0 λA=>
 aH .pointer e (A.add 2) λG=>
 fL G e λK s=>
 dw K.2.2.2.1 n s λo t=>
 aX t a1 ([VI o.1,VI o.2]) λf=>
 aU (λ(x:(Int×Int))=>[VI x.1,VI x.2]) f a1 2 λj=>
 Q (j.1,j.2) f))
 λg=>
 aJ (decide (0<(m.len:Int)))
 (aN p0 λB=>
 aH .pointer a (B.add 5) λI=>
 bV a (row [Sl.v m] 44) 1 λC u=>
 ot I C u λP w=>
 g () w)
 (g () a)))
def iA (p0:Sl) (H:PH) (Q:Sl->PH->Prop):Prop:=
 aJ (Option.isNone p0.a)
 (Q Sl.nil H)
 (bV H (row [] 46) 0 λd b=>
 fG b 46 5 56 [VI 0,VI 0,VI 0,VI 0,.slice none 0 0] d p0 λr5 c=>
 Q r5 c)
def nN (p0:Option Addr) (p1:Sl) (H:PH) (Q:Int->PH->Prop):Prop:=
 aJ (Option.isNone p0)
 (Q 1 H)
 (rD p1 H λd B D=>
 ag D (row [VI 0,VI 0,VI 0,VI 0,VI 0,VI 0,VI 0,.slice none 0 0] 52) λe E=>
 aX E e ([VI d.1,VI d.2.1,VI d.2.2.1,VI d.2.2.2.1,VI d.2.2.2.2.1,VI d.2.2.2.2.2.1,VI d.2.2.2.2.2.2.1,Sl.v d.2.2.2.2.2.2.2]) λa=>
 aJ (B != 0)
 (Q B a)
 (aH (.int .i64) a (e.add 0) λu=>
 aJ (u != 8)
 (Q 1 a)
 (mP [0,1]<|
 aH (.int .i64) a (e.add 1) λw=>
 mP [2,3]<|
 aN p0 λl=>
 mP [4,5]<|
 aH (.int .i64) a (l.add 0) λx=>
 mP [6,7]<|
 aJ (w != x)
 (Q 8 a)
 (mP [0,1]<|
 aH (.int .i64) a (e.add 2) λy=>
 mP [2,3]<|
 aN p0 λm=>
 mP [4,5]<|
 aH (.int .i64) a (m.add 3) λz=>
 mP [6,7]<|
 aJ (decide (z<y))
 (Q 1 a)
 (mP [0,1]<|
 aN p0 λn=>
 mP [2,3]<|
 aH (.int .i64) a (n.add 5) λb=>
 mP [4,5]<|
 aH (.int .i64) a (e.add 6) λc=>
 mP [6,7]<|
 mP [0,1,2]<|
 aN p0 λo=>
 mP [3,4]<|
 aH Sl.v a (o.add 6) λi=>
 mP [5,6,7]<|
 aN p0 λp=>
 mP [8,9]<|
 aH (.int .i64) a (p.add 5) λA=>
 mP [10,11]<|
 kG i 5 (IntKind.wrap .i64 ((if b<c then c else b)-A)) (i.len:Int) λt=>
 mP [12]<|
 iA t a λC j=>
 mP [13]<|
 aN p0 λq=>
 mP [14,15]<|
 aX j (q.add 6) ([Sl.v C]) λg=>
 mP [0,1,2,3,4,5]<|
 aH (.int .i64) g (e.add 2) λf=>
 mP [6,7]<|
 aN p0 λr=>
 mP [8,9]<|
 aX g (r.add 5) ([VI (if b<c then c else b)]) λh=>
 ar h (e.add 2) (VI f)<|
 mP [10]<|
 aN p0 λs=>
 mP [11,12]<|
 aX h (s.add 4) ([VI (if(if b<c then c else b)<f then f else(if b<c then c else b))]) λk=>
 Q 0 k)))))
def mm (p0:Option Addr) (H:PH) (Q:Int->PH->Prop):Prop:=
 aJ (Option.isNone p0)
 (Q 0 H)
 (aN p0 λa=>
 aH (.int .i64) H (a.add 4) λb=>
 Q b H)
def mn (p0:Option Addr) (p1:Int) (H:PH) (Q:(Int×Int)->PH->Prop):Prop:=
 ag H (row [VI 0,VI 0] 59) λa1 j=>
 aN p0 λt=>
 aH .pointer j (t.add 5) λu=>
 qG u p1 j λv q h=>
 aJ (!q)
 (dw 0 5 h λf i=>
 aX i a1 ([VI f.1,VI f.2]) λa=>
 aU (λ(x:(Int×Int))=>[VI x.1,VI x.2]) a a1 2 λd=>
 Q (d.1,d.2) a)
 (aN p0 λm=>
 aH .pointer h (m.add 3) λo=>
 nN o v h λr b=>
 aN p0 λn=>
 aH .pointer b (n.add 3) λp=>
 mm p b λs k=>
 dw s r k λg l=>
 aX l a1 ([VI g.1,VI g.2]) λc=>
 aU (λ(x:(Int×Int))=>[VI x.1,VI x.2]) c a1 2 λe=>
 Q (e.1,e.2) c)
def eN (p0:Option Addr) (p1:(Int×Int×Int×Int×Sl)) (H:PH) (Q:(Int×Int)->Bool->PH->Prop):Prop:=
 ag H (row [VI p1.1,VI p1.2.1,VI p1.2.2.1,VI p1.2.2.2.1,Sl.v p1.2.2.2.2] 43) λa1 H2=>
 ag H2 (row [VI 0,VI 0] 59) λb a=>
 aH (.int .i64) a (a1.add 0) λc=>
 aJ (c==1)
 (mP [0,1]<|
 aN p0 λn=>
 mP [2,3]<|
 aH .pointer a (n.add 3) λp=>
 mP [4,5]<|
 aH (.int .i64) a (a1.add 1) λq=>
 mP [6,7]<|
 aH (.int .i64) a (a1.add 3) λS=>
 mP [8]<|
 tj S a λY d=>
 ar d (a1.add 1) (VI q)<|
 ar d (n.add 3) (.pointer p)<|
 mP [9]<|
 mj p q Y d λZ F=>
 mP [10]<|
 dw 0 Z F λA G=>
 mP [11]<|
 aX G b ([VI A.1,VI A.2]) λg=>
 mP [12]<|
 aU (λ(x:(Int×Int))=>[VI x.1,VI x.2]) g b 2 λr=>
 Q (r.1,r.2) true g)
 (aJ (c==2)
 (False)
 (aJ (c==3)
 (aN p0 λP=>
 aH .pointer a (P.add 3) λT=>
 nI T a λaa I=>
 dw 0 aa I λB J=>
 aX J b ([VI B.1,VI B.2]) λh=>
 aU (λ(x:(Int×Int))=>[VI x.1,VI x.2]) h b 2 λs=>
 Q (s.1,s.2) true h)
 (aJ (c==4)
 (mP [0,1]<|
 aN p0 λo=>
 mP [2,3]<|
 aH .pointer a (o.add 4) λt=>
 mP [4,5]<|
 aN p0 λR=>
 mP [6,7]<|
 aH .pointer a (R.add 3) λU=>
 mP [8]<|
 oH U a λab i=>
 ar i (o.add 4) (.pointer t)<|
 mP [9]<|
 ot t ab i λac K=>
 mP [10]<|
 dw ac 0 K λC L=>
 mP [11]<|
 aX L b ([VI C.1,VI C.2]) λj=>
 mP [12]<|
 aU (λ(x:(Int×Int))=>[VI x.1,VI x.2]) j b 2 λu=>
 Q (u.1,u.2) true j)
 (aJ (c==5)
 (False)
 (aJ (c==6)
 (aH (.int .i64) a (a1.add 1) λV=>
 ld p0 V a λD M=>
 aX M b ([VI D.1,VI D.2]) λk=>
 aU (λ(x:(Int×Int))=>[VI x.1,VI x.2]) k b 2 λw=>
 Q (w.1,w.2) true k)
 (aJ (c==19)
 (aH (.int .i64) a (a1.add 1) λX=>
 mn p0 X a λE N=>
 aX N b ([VI E.1,VI E.2]) λl=>
 aU (λ(x:(Int×Int))=>[VI x.1,VI x.2]) l b 2 λy=>
 Q (y.1,y.2) true l)
 (aM (mK 1 (λρ (f:Bool)=>ρ 0=VP p0/\ρ 3=VA a1/\ρ 4=VA b/\ρ 80=VB f) (λf O=>
 aJ f
 (False)
 (aX O b ([VI 0,VI 0]) λm=>
 aU (λ(x:(Int×Int))=>[VI x.1,VI x.2]) m b 2 λz=>
 Q (z.1,z.2) false m)))
 λe=>
 aJ (c==7)
 (e (c==7) a)
 (aJ (c==8)
 (e (c==8) a)
 (e (c==9) a)))))))))
def AL (p0:Option Addr) (H:PH) (Q:Bool->PH->Prop):Prop:=
 aM (mK 4 (λg (s2:Bool)=>g 9=VB s2) (λs2 b=>
 Q s2 b))
 λa=>
 aJ (Option.isNone p0)
 (a true H)
 (mO p0 H λe c=>
 gJ e c λf d=>
 a f d)
def mU {γ:Type} (c0:Addr) (Y:List Value->γ->PH->(Nat->γ->PH->Prop)->Prop) (g:γ) (H:PH) (Q:Nat->γ->PH->Prop):Prop:=
 aH .pointer H c0 λo=>
 iy o H λp n=>
 bp (λ(s5:Int×(Nat×γ)) (b:PH) (c:(Int×(Nat×γ))->PH->Prop)=>
 aJ (decide (s5.1<p))
 (aH .pointer b c0 λk=>
 aN k λi=>
 aH Sl.v b (i.add 2) λl=>
 bX l 1 s5.1 λj=>
 aH .bool b j λm=>
 aM (λ(a:Bool×(Nat×γ)) (d:PH)=>
 aJ a.1
 (Q a.2.1 a.2.2 d)
 (c (IntKind.wrap .i64 (s5.1+1),a.2) d))
 λe=>
 aJ m
 (sP Y s5.2 [VI s5.1] b λf h=>
 e (!(f.1==0),f) h)
 (e (false,s5.2) b))
 (Q s5.2.1 s5.2.2 b))
 (0,(0,g)) n
def ou (p0:Option Addr) (H:PH) (Q:Value->PH->Prop):Prop:=
 ag H (row [.pointer p0] 259) λa1 a=>
 Q (.func (.func 321) #[] #[.pointer (some a1)]) a
def sI (p0:Option Addr) (p1:Bool) (H:PH) (Q:Value->PH->Prop):Prop:=
 cV p0 p1 H λb H1=>
 ou b H1 λc a=>
 Q c a
def oK (p0:Option Addr) (p1:Bool) (H:PH) (Q:Sl->Int->PH->Prop):Prop:=
 ag H (row [.pointer p0] 76) λa1 H2=>
 ag H2 (row [.bool p1] 4) λq H5=>
 ag H5 (row [.slice none 0 0] 23) λn H8=>
 ag H8 (row [VI 0] 32) λg l=>
 aH .pointer l a1 λah=>
 aN ah λY=>
 fW 2 (Y.add 16) 1 0 λZ=>
 aH Sl.v l Z λai=>
 c6 ai l λaB R=>
 ag R (row [.slice none 0 0] 23) λc S=>
 aX S c ([Sl.v aB]) λe=>
 aH .bool e q λaj=>
 aM (λ(aI:Unit) (i:PH)=>
 aH .pointer i a1 λak=>
 aN ak λaa=>
 aH .pointer i (aa.add 3) λal=>
 aH .bool i q λam=>
 sI al am i λaC T=>
 iH Tryz.prog aC (λ(F:List Value) (aG:Unit) (j:PH) (p:Nat->Unit->PH->Prop)=>
 ∃(d:Int),F=[VI d]/\
 aH .pointer j a1 λan=>
 aN an λab=>
 aH .pointer j (ab.add 3) λao=>
 aH .bool j q λap=>
 mH ao ap d j λaD U=>
 nq aD U λaE w f=>
 aJ (w != 0)
 (aX f n ([Sl.v Sl.nil]) λV=>
 aX V g ([VI w]) λX=>
 p 1 () X)
 (aH Sl.v f c λaq=>
 aH Sl.v f c λau=>
 bX au 1 d λac=>
 aH (.int .i64) f ac λav=>
 bX aq 1 d λad=>
 aX f ad ([VI (IntKind.wrap .i64 (1-av))]) λa=>
 aH .pointer a a1 λt=>
 aN t λr=>
 aH .pointer a (r.add 0) λu=>
 aH .pointer a a1 λaw=>
 aN aw λae=>
 aH .pointer a (ae.add 1) λax=>
 aH .bool a q λay=>
 aH Sl.v a c λaz=>
 bX az 1 d λaf=>
 aH (.int .i64) a af λaA=>
 kI ax ay d aA a λO m=>
 ar m (r.add 0) (.pointer u)<|
 ar m a1 (.pointer t)<|
 fQ u O aE m λo k=>
 aJ (o != 0)
 (aX k n ([Sl.v Sl.nil]) λx=>
 aX x g ([VI o]) λy=>
 p 1 () y)
 (p 0 () k))) () T λE aF b=>
 aJ (E==1)
 (aH Sl.v b n λK=>
 aH (.int .i64) b g λL=>
 Q K L b)
 (aH Sl.v b c λG=>
 aX b n ([Sl.v G]) λz=>
 aX z g ([VI 0]) λh=>
 aH Sl.v h n λI=>
 aH (.int .i64) h g λJ=>
 Q I J h))
 λs=>
 aJ aj
 (aH .pointer e a1 λM=>
 aN M λC=>
 fW 2 (C.add 16) 1 1 λD=>
 aH Sl.v e D λN=>
 c6 N e λP A=>
 aX A c ([Sl.v P]) λB=>
 s () B)
 (s () e)
def lK (p0:Option Addr) (H:PH) (Q:(Int×Int×Int×Int×Int)->PH->Prop):Prop:=
 ag H (row [VI 0,VI 0,VI 0,VI 0,VI 0] 136) λa1 e=>
 aJ (Option.isNone p0)
 (aX e a1 ([VI 0,VI 0,VI 0,VI 0,VI 0]) λf=>
 aU (λ(x:(Int×Int×Int×Int×Int))=>[VI x.1,VI x.2.1,VI x.2.2.1,VI x.2.2.2.1,VI x.2.2.2.2]) f a1 5 λc=>
 Q (c.1,c.2.1,c.2.2.1,c.2.2.2.1,c.2.2.2.2) f)
 (aN p0 λg=>
 aU (λ(x:(Int×Int×Int×Int×Int))=>[VI x.1,VI x.2.1,VI x.2.2.1,VI x.2.2.2.1,VI x.2.2.2.2]) e (g.add 3) 5 λa=>
 aX e a1 ([VI a.1,VI a.2.1,VI a.2.2.1,VI a.2.2.2.1,VI a.2.2.2.2]) λd=>
 aU (λ(x:(Int×Int×Int×Int×Int))=>[VI x.1,VI x.2.1,VI x.2.2.1,VI x.2.2.2.1,VI x.2.2.2.2]) d a1 5 λb=>
 Q (b.1,b.2.1,b.2.2.1,b.2.2.2.1,b.2.2.2.2) d)
def gS (p0:Sl) (H:PH) (Q:Sl->PH->Prop):Prop:=
 aJ (Option.isNone p0.a)
 (Q Sl.nil H)
 (bV H (row [] 201) 0 λd b=>
 fG b 201 2 16 [VI 0,VI 0] d p0 λr5 c=>
 Q r5 c)
def mV (p0:Option Addr) (p1:Int) (H:PH) (Q:Bool->PH->Prop):Prop:=
 aN p0 λa1=>
 aH Sl.v H (a1.add 1) λh=>
 bX h 2 p1 λg=>
 aH (.int .i64) H (g.add 0) λi=>
 aM (mK 9 (λj (cX:Bool)=>j 23=VB cX) (λcX b=>
 Q cX b))
 λa=>
 aJ (i==2)
 (aN p0 λc=>
 aH Sl.v H (c.add 2) λe=>
 bX e 1 p1 λd=>
 aH (.int .i64) H d λf=>
 a (f==0) H)
 (a false H)
def pb (p0:Option Addr) (p1:Bool) (H:PH) (Q:Sl->PH->Prop):Prop:=
 aJ (Option.isNone p0)
 (Q Sl.nil H)
 (aN p0 λq=>
 aH Sl.v H (q.add 1) λr=>
 gS r H λb p=>
 bp (mL (λc (a:Int)=>c 0=VP p0/\c 1=VB p1/\c 5=Sl.v b/\c 15=VI (b.len:Int)/\c 16=VI a) (λa d e=>
 aJ (decide (a<(b.len:Int)))
 (aM (mB (λc (n:Unit)=>c 0=VP p0/\c 1=VB p1/\c 5=Sl.v b/\c 15=VI (b.len:Int)/\c 16=VI a) (λn j=>
 e (IntKind.wrap .i64 (a+1)) j))
 λh=>
 aM (mK 4 (λc (f:Bool)=>c 0=VP p0/\c 1=VB p1/\c 5=Sl.v b/\c 6=VI a/\c 15=VI (b.len:Int)/\c 16=VI a/\c 24=VB f) (λf g=>
 aJ f
 (bX b 2 a λm=>
 aX g (m.add 0) ([VI 0]) λk=>
 h () k)
 (h () g)))
 λi=>
 aJ p1
 (mV p0 a d λo l=>
 i o l)
 (i false d))
 (Q b d)))
 0 p)
def nO (p0:Option Addr) (p1:(Sl×Sl)) (H:PH) (Q:Int->PH->Prop):Prop:=
 ag H (row [Sl.v p1.1,Sl.v p1.2] 122) λa1 c=>
 aN p0 λD=>
 aH .pointer c (D.add 1) λF=>
 aN p0 λE=>
 aH (.int .i64) c ((E.add 5).add 6) λn=>
 aN p0 λg=>
 aH (.int .i64) c ((g.add 5).add 1) λo=>
 aN p0 λh=>
 aH (.int .i64) c ((h.add 5).add 0) λp=>
 aN p0 λi=>
 aH (.int .i64) c ((i.add 5).add 2) λq=>
 aN p0 λj=>
 aH (.int .i64) c ((j.add 5).add 3) λr=>
 aN p0 λk=>
 aH (.int .i64) c ((k.add 5).add 4) λs=>
 aN p0 λI=>
 aH .pointer c (I.add 4) λM=>
 fW 2 a1 1 0 λl=>
 aH Sl.v c l λt=>
 fW 2 a1 1 1 λm=>
 aH Sl.v c m λu=>
 aN p0 λx=>
 aH .pointer c (x.add 2) λz=>
 lK M c λe a=>
 ar a (x.add 2) (.pointer z)<|
 ar a m (Sl.v u)<|
 ar a l (Sl.v t)<|
 ar a ((k.add 5).add 4) (VI s)<|
 ar a ((j.add 5).add 3) (VI r)<|
 ar a ((i.add 5).add 2) (VI q)<|
 ar a ((h.add 5).add 0) (VI p)<|
 ar a ((g.add 5).add 1) (VI o)<|
 ar a ((E.add 5).add 6) (VI n)<|
 ar a (D.add 1) (.pointer F)<|
 pb z true a λR b=>
 ar b m (Sl.v u)<|
 ar b l (Sl.v t)<|
 ar b ((k.add 5).add 4) (VI s)<|
 ar b ((j.add 5).add 3) (VI r)<|
 ar b ((i.add 5).add 2) (VI q)<|
 ar b ((h.add 5).add 0) (VI p)<|
 ar b ((g.add 5).add 1) (VI o)<|
 ar b ((E.add 5).add 6) (VI n)<|
 ar b (D.add 1) (.pointer F)<|
 lD F (IntKind.wrap .i64 (n+1),o,p,q,r,s,e.1,e.2.1,e.2.2.1,e.2.2.2.1,e.2.2.2.2,t,u,R) b λS B d=>
 aJ (B != 0)
 (Q B d)
 (aN p0 λy=>
 aH .pointer d (y.add 0) λA=>
 aN p0 λJ=>
 aH .pointer d (J.add 1) λN=>
 aN p0 λK=>
 aH (.int .i64) d (K.add 15) λO=>
 ig N (IntKind.wrap .i64 (1-O)) d λT w=>
 ar w (y.add 0) (.pointer A)<|
 vH A T S w λC f=>
 aJ (C != 0)
 (Q C f)
 (aN p0 λL=>
 aH .pointer f (L.add 0) λP=>
 fR P f λU G=>
 Q U G))
def ko (p0:Option Addr) (H:PH) (Q:PH->Prop):Prop:=
 aJ (!(Option.isNone p0))
 (aN p0 λb=>
 aH Sl.v H (b.add 2) λc=>
 yP H 1 [.bool false] c λa=>
 Q a)
 (Q H)
def oL (p0:Option Addr) (H:PH) (Q:PH->Prop):Prop:=
 cV p0 false H λd H1=>
 ko d H1 λa=>
 cV p0 true a λe b=>
 ko e b λc=>
 Q c
def mo (p0:Option Addr) (H:PH) (Q:Sl->PH->Prop):Prop:=
 aJ (Option.isNone p0)
 (Q Sl.nil H)
 (aN p0 λs=>
 aH Sl.v H (s.add 1) λg=>
 bp (mL (λe (a:Sl×Int)=>e 0=VP p0/\e 2=Sl.v a.1/\e 10=VI (g.len:Int)/\e 11=VI a.2) (λa l c=>
 aJ (decide (a.2<(g.len:Int)))
 (aM (mB (λe (d:Sl)=>e 0=VP p0/\e 2=Sl.v d/\e 10=VI (g.len:Int)/\e 11=VI a.2) (λd h=>
 c (d,IntKind.wrap .i64 (a.2+1)) h))
 λf=>
 mV p0 a.2 l λr b=>
 aJ r
 (aN p0 λm=>
 aH Sl.v b (m.add 1) λq=>
 bX q 2 a.2 λn=>
 aX b (n.add 0) ([VI 0]) λi=>
 bV i (row [VI a.2] 3) 1 λo j=>
 fG j 3 1 8 [VI 0] a.1 o λp k=>
 f p k)
 (f a.1 b))
 (Q a.1 l)))
 (Sl.nil,0) H)
def iR (p0:Option Addr) (H:PH) (Q:Sl->Int->PH->Prop):Prop:=
 ij p0 0 true H λL H1=>
 aJ (L != 0)
 (Q Sl.nil L H1)
 (aN p0 λP=>
 aH .pointer H1 (P.add 4) λR=>
 gm R H1 λO t=>
 aJ (O != 0)
 (Q Sl.nil O t)
 (ag t (row [.slice none 0 0,.slice none 0 0] 122) λa q=>
 bp (mL (λS (b:Int)=>S 0=VP p0/\S 4=VA a/\S 19=VI b) (λb f e=>
 aJ (decide (b< 2))
 (oK p0 (b==1) f λM n r=>
 fW 2 a 1 b λu=>
 aX r u ([Sl.v M]) λh=>
 aJ (n != 0)
 (Q Sl.nil n h)
 (e (IntKind.wrap .i64 (b+1)) h))
 (aN p0 λw=>
 aH .pointer f (w.add 0) λF=>
 fR F f λo g=>
 aJ (o != 0)
 (Q Sl.nil o g)
 (aU (λ(x:(Sl×Sl))=>[Sl.v x.1,Sl.v x.2]) g a 2 λm=>
 nO p0 (m.1,m.2) g λp d=>
 aJ (p != 0)
 (Q Sl.nil p d)
 (mP [0,1,2,3,4]<|
 aN p0 λy=>
 mP [5,6,7]<|
 aH (.int .i64) d ((y.add 5).add 6) λG=>
 mP [8,9,10]<|
 aN p0 λz=>
 mP [11,12]<|
 aH (.int .i64) d (z.add 15) λI=>
 mP [13,14]<|
 aU (λ(x:(Sl×Sl))=>[Sl.v x.1,Sl.v x.2]) d a 2 λc=>
 mP [15]<|
 aN p0 λA=>
 mP [16,17,18]<|
 aX d ((A.add 5).add 6) ([VI (IntKind.wrap .i64 (G+1))]) λi=>
 fU i a 2 ([Sl.v c.1,Sl.v c.2])<|
 mP [19]<|
 aN p0 λB=>
 mP [20,21]<|
 aX i (B.add 15) ([VI (IntKind.wrap .i64 (1-I))]) λj=>
 fU j a 2 ([Sl.v c.1,Sl.v c.2])<|
 mP [22]<|
 aN p0 λC=>
 mP [23,24]<|
 aX j (C.add 16) ([Sl.v c.1,Sl.v c.2]) λk=>
 aN p0 λD=>
 aH .pointer k (D.add 3) λJ=>
 oL J k λl=>
 aN p0 λE=>
 aH .pointer l (E.add 2) λK=>
 mo K l λN s=>
 Q N 0 s)))))
 0 q))
def qh (p0:Option Addr) (H:PH) (Q:(Int×Int×Int×Int×Int)->PH->Prop):Prop:=
 ag H (row [VI 0,VI 0,VI 0,VI 0,VI 0] 136) λa1 e=>
 aJ (Option.isNone p0)
 (aX e a1 ([VI 0,VI 0,VI 0,VI 0,VI 0]) λg=>
 aU (λ(x:(Int×Int×Int×Int×Int))=>[VI x.1,VI x.2.1,VI x.2.2.1,VI x.2.2.2.1,VI x.2.2.2.2]) g a1 5 λc=>
 Q (c.1,c.2.1,c.2.2.1,c.2.2.2.1,c.2.2.2.2) g)
 (aN p0 λi=>
 aH .pointer e (i.add 4) λh=>
 lK h e λb f=>
 aX f a1 ([VI b.1,VI b.2.1,VI b.2.2.1,VI b.2.2.2.1,VI b.2.2.2.2]) λd=>
 aU (λ(x:(Int×Int×Int×Int×Int))=>[VI x.1,VI x.2.1,VI x.2.2.1,VI x.2.2.2.1,VI x.2.2.2.2]) d a1 5 λa=>
 Q (a.1,a.2.1,a.2.2.1,a.2.2.2.1,a.2.2.2.2) d)
def ov {γ:Type} (c0:Addr) (Y:List Value->γ->PH->(Nat->γ->PH->Prop)->Prop) (g:γ) (H:PH) (Q:Nat->γ->PH->Prop):Prop:=
 aH .pointer H c0 λo=>
 aJ (Option.isNone o)
 (Q (0,g).1 (0,g).2 H)
 (aH .pointer H c0 λp=>
 aN p λn=>
 aH Sl.v H (n.add 1) λq=>
 bp (λ(cX:Int×(Nat×γ)) (a:PH) (c:(Int×(Nat×γ))->PH->Prop)=>
 aJ (decide (cX.1<(q.len:Int)))
 (aH .pointer a c0 λk=>
 aN k λi=>
 aH Sl.v a (i.add 1) λl=>
 bX l 2 cX.1 λj=>
 aH (.int .i64) a (j.add 0) λm=>
 aM (λ(b:Bool×(Nat×γ)) (d:PH)=>
 aJ b.1
 (Q b.2.1 b.2.2 d)
 (c (IntKind.wrap .i64 (cX.1+1),b.2) d))
 λe=>
 aJ (m==2)
 (sP Y cX.2 [VI cX.1] a λf h=>
 e (!(f.1==0),f) h)
 (e (false,cX.2) a))
 (Q cX.2.1 cX.2.2 a))
 (0,(0,g)) H)
def rE (p0:Option Addr) (H:PH) (Q:Value->PH->Prop):Prop:=
 ag H (row [.pointer p0] 78) λa1 a=>
 Q (.func (.func 305) #[] #[.pointer (some a1)]) a
def pc (p0:Option Addr) (p1:Int) (H:PH) (Q:Int->PH->Prop):Prop:=
 gQ p0 p1 H λe H1=>
 aJ (!e)
 (Q 0 H1)
 (aN p0 λb=>
 aH Sl.v H1 (b.add 2) λd=>
 bX d 1 p1 λc=>
 aH (.int .i64) H1 c λa=>
 Q a H1)
def rq (p0:Option Addr) (H:PH) (Q:Int->PH->Prop):Prop:=
 aJ (Option.isNone p0)
 (Q 0 H)
 (aN p0 λa=>
 aH (.int .i64) H ((a.add 0).add 2) λb=>
 Q (IntKind.wrap .i64 (Int.tdiv (IntKind.wrap .i64 (b- 2)) 2)) H)
def lE (p0:Int) (p1:Int) (p2:Int) (H:PH) (Q:Bool->PH->Prop):Prop:=
 aM (mK 4 (λc (s2:Bool)=>c 14=VB s2) (λs2 b=>
 Q s2 b))
 λa=>
 aJ (decide (p1<=p0))
 (a (decide (p0<=p2)) H)
 (a false H)
def oM (p0:Option Addr) (p1:Int) (H:PH) (Q:Int->PH->Prop):Prop:=
 gQ p0 p1 H λe H1=>
 aJ (!e)
 (Q 0 H1)
 (aN p0 λb=>
 aH Sl.v H1 (b.add 1) λd=>
 bX d 2 p1 λc=>
 aH (.int .i64) H1 (c.add 1) λa=>
 Q a H1)
def wA (p0:Int) (p1:Int) (H:PH) (Q:Int->PH->Prop):Prop:=
 aJ (decide (p0<=p1))
 (Q 0 H)
 (Q (if 2147483647<(IntKind.wrap .i64 (p0-p1)) then 2147483647 else(IntKind.wrap .i64 (p0-p1))) H)
def tk (p0:Int) (p1:Int) (p2:Int) (H:PH) (Q:Int->PH->Prop):Prop:=
 lE p2 1 1000 H λk H1=>
 aM (mK 5 (λa (s4:Bool)=>a 0=VI p0/\a 1=VI p1/\a 2=VI p2/\a 15=VB s4) (λs4 g=>
 aM (mK 4 (λa (d:Bool)=>a 0=VI p0/\a 1=VI p1/\a 2=VI p2/\a 20=VB d) (λd b=>
 aJ d
 (Q 0 b)
 (xP (IntKind.wrap .i64 (p2+p0))<|
 Q (IntKind.wrap .i64 (Int.tdiv (IntKind.wrap .i64 ((IntKind.wrap .i64 (p2-p0))*p1)) (IntKind.wrap .i64 (p2+p0)))) b)))
 λc=>
 aJ s4
 (c true g)
 (lE p1 0 2147483647 g λi e=>
 c (!i) e)))
 λh=>
 aJ (!k)
 (h true H1)
 (lE p0 0 p2 H1 λj f=>
 h (!j) f)
def sw (p0:(Int×Int×Int)) (p1:(Int×Int×Int)) (H:PH) (Q:Bool->PH->Prop):Prop:=
 ag H (row [VI p0.1,VI p0.2.1,VI p0.2.2] 41) λa1 B=>
 ag B (row [VI p1.1,VI p1.2.1,VI p1.2.2] 41) λb a=>
 fW 3 a1 1 0 λC=>
 aH (.int .i64) a C λD=>
 fW 3 b 1 0 λk=>
 aH (.int .i64) a k λt=>
 aJ (D != t)
 (fW 3 a1 1 0 λl=>
 aH (.int .i64) a l λu=>
 fW 3 b 1 0 λm=>
 aH (.int .i64) a m λv=>
 Q (decide (v<u)) a)
 (fW 3 a1 1 1 λn=>
 aH (.int .i64) a n λg=>
 fW 3 b 1 1 λo=>
 aH (.int .i64) a o λh=>
 aM (mK 13 (λA (c:Bool)=>A 33=VB c) (λc i=>
 Q c i))
 λe=>
 aJ (decide (g<h))
 (e true a)
 (fW 3 a1 1 1 λp=>
 aH (.int .i64) a p λw=>
 fW 3 b 1 1 λq=>
 aH (.int .i64) a q λx=>
 aM (mK 6 (λA (d:Bool)=>A 20=VB (decide (g<h))/\A 32=VB d) (λd j=>
 e d j))
 λf=>
 aJ (w==x)
 (fW 3 a1 1 2 λr=>
 aH (.int .i64) a r λy=>
 fW 3 b 1 2 λs=>
 aH (.int .i64) a s λz=>
 f (decide (y<z)) a)
 (f false a)))
def uk (p0:Option Addr) (p1:Option Addr) (p2:Int) (H:PH) (Q:Int->Bool->PH->Prop):Prop:=
 ag H (row [.pointer p0] 82) λa1 H2=>
 ag H2 (row [.pointer p1] 78) λq H5=>
 ag H5 (row [VI p2] 3) λS H8=>
 ag H8 (row [VI 0,VI 0,VI 0] 41) λj F=>
 ag F (row [.bool false] 4) λe G=>
 aX G e ([.bool false]) λd=>
 aH .pointer d a1 λX=>
 aM (λ(U:Bool) (g:PH)=>
 aJ U
 (Q 0 false g)
 (aH .pointer g q λY=>
 rE Y g λad I=>
 iH Tryz.prog ad (λ(B:List Value) (an:Unit) (r:PH) (o:Nat->Unit->PH->Prop)=>
 ∃(f:Int),B=[VI f]/\
 aH .pointer r q λZ=>
 pc Z f r λp s=>
 aH .pointer s a1 λaa=>
 rq aa s λae J=>
 lE p 1 ae J λaf a=>
 aJ (!af)
 (o 0 () a)
 (aM (λ(y:Addr) (b:PH)=>
 aH .bool b e λab=>
 aM (λ(V:Bool) (h:PH)=>
 aJ V
 (aU (λ(x:(Int×Int×Int))=>[VI x.1,VI x.2.1,VI x.2.2]) h y 3 λk=>
 aX h j ([VI k.1,VI k.2.1,VI k.2.2]) λK=>
 aX K e ([.bool true]) λL=>
 o 0 () L)
 (o 0 () h))
 λw=>
 aJ (!ab)
 (w true b)
 (aU (λ(x:(Int×Int×Int))=>[VI x.1,VI x.2.1,VI x.2.2]) b y 3 λl=>
 aU (λ(x:(Int×Int×Int))=>[VI x.1,VI x.2.1,VI x.2.2]) b j 3 λm=>
 sw (l.1,l.2.1,l.2.2) (m.1,m.2.1,m.2.2) b λah M=>
 w ah M))
 λT=>
 aH (.int .i64) a S λz=>
 aH .pointer a q λac=>
 aH .pointer a a1 λn=>
 oM ac f a λai i=>
 ar i a1 (.pointer n)<|
 ar i S (VI z)<|
 wA z ai i λaj t=>
 ar t a1 (.pointer n)<|
 cU n t λak N=>
 tk p aj (IntKind.wrap .i64 (ak.2.2- 2)) N λal O=>
 ag O (row [VI 0,VI 0,VI 0] 41) λu P=>
 aX P u ([VI al,VI p,VI f]) λR=>
 T u R)) () I λ_ am c=>
 fW 3 j 1 2 λA=>
 aH (.int .i64) c A λC=>
 aH .bool c e λD=>
 Q C D c))
 λv=>
 aJ (Option.isNone X)
 (v true d)
 (aH .pointer d q λE=>
 v (Option.isNone E) d)
def yH (p0:Option Addr) (H:PH) (Q:Bool->PH->Prop):Prop:=
 mM p0 H λk H1=>
 ji p0 H1 λl i=>
 qh p0 i λm j=>
 uk k l m.2.2.1 j λo n f=>
 aM (mK 5 (λp (a:Bool)=>p 22=VB a) (λa c=>
 Q a c))
 λb=>
 aJ n
 (ji p0 f λg d=>
 kN g d λh e=>
 b (decide (h<=2)) e)
 (b false f)
def yI (p0:Option Addr) (H:PH) (Q:Int->Int->PH->Prop):Prop:=
 AL p0 H λm H1=>
 aJ m
 (Q 0 3 H1)
 (iR p0 H1 λn o l=>
 bp (mL (λc (a:Int×Int×Sl×Int)=>c 0=VP p0/\c 2=VI a.1/\c 3=VI a.2.1/\c 4=Sl.v a.2.2.1/\c 5=VI a.2.2.2) (λa d e=>
 aJ (a.2.1==0)
 (aM (mB (λc (b:Int×Int×Sl)=>c 0=VP p0/\c 2=VI b.1/\c 3=VI b.2.1/\c 4=Sl.v b.2.2/\c 5=VI a.2.2.2) (λb h=>
 e (b.1,b.2.1,b.2.2,IntKind.wrap .i64 (a.2.2.2+1)) h))
 λp=>
 aM (mK 4 (λc (f:Bool)=>c 0=VP p0/\c 2=VI (IntKind.wrap .i64 (a.1+(a.2.2.1.len:Int)))/\c 4=Sl.v a.2.2.1/\c 5=VI a.2.2.2/\c 27=VB f) (λf i=>
 aJ f
 (Q (IntKind.wrap .i64 (a.1+(a.2.2.1.len:Int))) 0 i)
 (False)))
 λg=>
 aJ (a.2.2.2==64)
 (g true d)
 (yH p0 d λk j=>
 g (!k) j))
 (Q 0 a.2.1 d)))
 (0,o,n,0) l)
def lL (p0:Option Addr) (H:PH) (Q:Int->Int->PH->Prop):Prop:=
 fX p0 H λb H1=>
 yI b H1 λc d a=>
 Q c d a
def oN (p0:Option Addr) (p1:Int) (p2:Int) (H:PH) (Q:Int->PH->Prop):Prop:=
 aJ (Option.isNone p0)
 (Q 3 H)
 (aN p0 λF=>
 aH (.int .i64) H ((F.add 5).add 0) λG=>
 aJ (G != 1)
 (Q 7 H)
 (aM (mK 3 (λb (g:Bool)=>b 0=VP p0/\b 1=VI p1/\b 2=VI p2/\b 25=VB g) (λg c=>
 aM (mK 7 (λb (e:Bool)=>b 0=VP p0/\b 1=VI p1/\b 2=VI p2/\b 33=VB e) (λe a=>
 aJ e
 (Q 1 a)
 (aN p0 λq=>
 aH (.int .i64) a ((q.add 5).add 1) λy=>
 aJ (decide (p1<=y))
 (Q 8 a)
 (aN p0 λr=>
 aH .pointer a (r.add 0) λz=>
 gJ z a λC d=>
 aJ C
 (Q 3 d)
 (aN p0 λs=>
 aH .pointer d (s.add 3) λA=>
 ka A d λD k=>
 kO p0 0 D k λh=>
 aN p0 λt=>
 aH (.int .i64) h ((t.add 5).add 4) λB=>
 aN p0 λu=>
 aX h ((u.add 5).add 3) ([VI B]) λl=>
 aN p0 λv=>
 aX l ((v.add 5).add 1) ([VI p1]) λm=>
 aN p0 λw=>
 aX m ((w.add 5).add 0) ([VI p2]) λn=>
 iR p0 n λI E o=>
 Q E o)))))
 λi=>
 aJ g
 (i true c)
 (aM (mK 3 (λb (f:Bool)=>b 0=VP p0/\b 1=VI p1/\b 2=VI p2/\b 26=VB g/\b 32=VB f) (λf p=>
 i f p))
 λj=>
 aJ (p2 != 1)
 (j (p2 != 2) c)
 (j false c))))
 λx=>
 aJ (decide (p1< 1))
 (x true H)
 (x (decide (2147483647<p1)) H)))
def kB (p0:Option Addr) (p1:Int) (H:PH) (Q:Int->PH->Prop):Prop:=
 fX p0 H λb H1=>
 oN b p1 2 H1 λc a=>
 Q c a
def dI (p0:Sl) (H:PH) (Q:Sl->PH->Prop):Prop:=
 aJ (Option.isNone p0.a)
 (Q Sl.nil H)
 (bV H (row [] 112) 0 λd b=>
 fG b 112 64 64 (List.replicate 64 (.int .u8 0)) d p0 λr5 c=>
 Q r5 c)
def jW (p0:Sl) (H:PH) (Q:Sl->PH->Prop):Prop:=
 aJ (Option.isNone p0.a)
 (Q Sl.nil H)
 (bV H (row [] 4) 0 λd b=>
 fG b 4 1 1 [.bool false] d p0 λr5 c=>
 Q r5 c)
def il (p0:Option Addr) (p1:Sl) (H:PH) (Q:Option Addr->PH->Prop):Prop:=
 aJ (Option.isNone p0)
 (Q none H)
 (mP [0,1]<|
 aN p0 λX=>
 mP [2,3]<|
 aH Sl.v H (X.add 0) λY=>
 mP [5,6]<|
 aN p0 λD=>
 mP [7,8]<|
 aH Sl.v H (D.add 3) λS=>
 mP [4]<|
 dI Y H λT o=>
 ar o (D.add 3) (Sl.v S)<|
 mP [9]<|
 jW S o λU s=>
 mP [10,11]<|
 ag s (row [Sl.v T,Sl.v Sl.nil,Sl.v Sl.nil,Sl.v U,VI (-1),VI 0,.bool false] 88) λd p=>
 mP [12]<|
 aN p0 λA=>
 aH Sl.v p (A.add 2) λb=>
 bp (mL (λc (a:Bool×Int)=>c 1=Sl.v p1/\c 5=VA d/\c 6=VB a.1/\c 27=Sl.v b/\c 28=VI (b.len:Int)/\c 29=VI a.2) (λa h j=>
 aJ (decide (a.2<(b.len:Int)))
 (aM (mB (λc (m:Bool)=>c 1=Sl.v p1/\c 5=VA d/\c 6=VB m/\c 27=Sl.v b/\c 28=VI (b.len:Int)/\c 29=VI a.2) (λm t=>
 j (m,IntKind.wrap .i64 (a.2+1)) t))
 λl=>
 bX b 65 a.2 λB=>
 AF h B 65 λJ=>
 ag h (row [VI 0,.int .u8 0,.int .u8 0,.int .u8 0,.int .u8 0,.int .u8 0,.int .u8 0,.int .u8 0,.int .u8 0,.int .u8 0,.int .u8 0,.int .u8 0,.int .u8 0,.int .u8 0,.int .u8 0,.int .u8 0,.int .u8 0,.int .u8 0,.int .u8 0,.int .u8 0,.int .u8 0,.int .u8 0,.int .u8 0,.int .u8 0,.int .u8 0,.int .u8 0,.int .u8 0,.int .u8 0,.int .u8 0,.int .u8 0,.int .u8 0,.int .u8 0,.int .u8 0,.int .u8 0,.int .u8 0,.int .u8 0,.int .u8 0,.int .u8 0,.int .u8 0,.int .u8 0,.int .u8 0,.int .u8 0,.int .u8 0,.int .u8 0,.int .u8 0,.int .u8 0,.int .u8 0,.int .u8 0,.int .u8 0,.int .u8 0,.int .u8 0,.int .u8 0,.int .u8 0,.int .u8 0,.int .u8 0,.int .u8 0,.int .u8 0,.int .u8 0,.int .u8 0,.int .u8 0,.int .u8 0,.int .u8 0,.int .u8 0,.int .u8 0,.int .u8 0] 115) λe u=>
 Bu u e 65 J λk=>
 aM (mK 1 (λc (g:Int)=>c 1=Sl.v p1/\c 5=VA d/\c 6=VB a.1/\c 8=VA e/\c 9=VI g/\c 27=Sl.v b/\c 28=VI (b.len:Int)/\c 29=VI a.2) (λg f=>
 aJ ((Int.tmod g 3)==1)
 (mP [0,1,2,3]<|
 aH Sl.v f (d.add 0) λK=>
 mP [4,5]<|
 aH (.int .i64) f (e.add 0) λL=>
 mP [6,7]<|
 AF f (e.add 1) 64 λM=>
 mP [8]<|
 bX K 64 L λC=>
 mP [9]<|
 Bu f C 64 M λw=>
 l a.1 w)
 (aM (mK 3 (λc (n:Bool)=>c 1=Sl.v p1/\c 5=VA d/\c 6=VB a.1/\c 8=VA e/\c 9=VI g/\c 27=Sl.v b/\c 28=VI (b.len:Int)/\c 29=VI a.2/\c 65=VB n) (λn i=>
 aJ n
 (mP [0,1,2,3]<|
 aH Sl.v i (d.add 0) λN=>
 mP [4,5]<|
 aH (.int .i64) i (e.add 0) λO=>
 mP [6]<|
 bX N 64 O λE=>
 mP [7,8,9]<|
 zA 64 E 1 0 (IntKind.wrap .i64 (Int.tdiv g 3)) λG=>
 mP [10,11]<|
 zA 64 (e.add 1) 1 0 64 λI=>
 mP [12]<|
 mZ i 1 G I λZ x=>
 l true x)
 (l a.1 i)))
 λr=>
 aJ ((Int.tmod g 3)==2)
 (r (!a.1) f)
 (r false f))))
 λq=>
 aJ (decide (a.2<(p1.len:Int)))
 (bX p1 1 a.2 λF=>
 aH (.int .i64) k F λP=>
 q (Int.tmod (IntKind.wrap .i64 ((Int.tmod P 192)+192)) 192) k)
 (q 0 k))
 (aH Sl.v h (d.add 0) λR=>
 dI R h λV y=>
 aX y (d.add 1) ([Sl.v V]) λz=>
 Q (some d) z)))
 (false,0) p)
def kq (p0:Option Addr) (p1:(Int×Int×Int×Int×Sl)) (H:PH) (Q:(Int×Int)->PH->Prop):Prop:=
 ag H (row [VI p1.1,VI p1.2.1,VI p1.2.2.1,VI p1.2.2.2.1,Sl.v p1.2.2.2.2] 43) λa1 C=>
 ag C (row [VI 0,VI 0] 59) λh g=>
 mP [0,1,2]<|
 aN p0 λD=>
 mP [3,4]<|
 aH .pointer g (D.add 1) λE=>
 mP [5,6]<|
 aH Sl.v g (a1.add 4) λt=>
 mP [7]<|
 il E t g λz i=>
 mP [8]<|
 aN p0 λn=>
 mP [9,10]<|
 aX i (n.add 1) ([.pointer z]) λb=>
 aH (.int .i64) b (a1.add 2) λu=>
 aM (mK 1 (λF (s:Unit)=>F 0=VP p0/\F 4=VA h) (λs a=>
 mP [0,1]<|
 aN p0 λo=>
 mP [2,3]<|
 aH .pointer a (o.add 1) λw=>
 mP [4,5]<|
 aN p0 λp=>
 mP [6,7]<|
 aH (.int .i64) a (p.add 0) λy=>
 mP [8]<|
 rj w y a λe A j=>
 mP [9,10,11,12,13]<|
 aN p0 λq=>
 aX j (q.add 2) ([.pointer e]) λk=>
 fL e k λB l=>
 dw B.2.2.1 A l λf m=>
 aX m h ([VI f.1,VI f.2]) λc=>
 aU (λ(x:(Int×Int))=>[VI x.1,VI x.2]) c h 2 λd=>
 Q (d.1,d.2) c))
 λr=>
 aJ (decide (0<u))
 (False)
 (r () b)
def kf (p0:Option Addr) (p1:(Int×Int×Int×Int×Sl)) (H:PH) (Q:(Int×Int)->PH->Prop):Prop:=
 ag H (row [VI p1.1,VI p1.2.1,VI p1.2.2.1,VI p1.2.2.2.1,Sl.v p1.2.2.2.2] 43) λa1 S=>
 ag S (row [VI 0,VI 0] 59) λc y=>
 aJ (Option.isNone p0)
 (aX y c ([VI 3,VI 0]) λG=>
 aU (λ(x:(Int×Int))=>[VI x.1,VI x.2]) G c 2 λl=>
 Q (l.1,l.2) G)
 (aU (λ(x:(Int×Int×Int×Int×Sl))=>[VI x.1,VI x.2.1,VI x.2.2.1,VI x.2.2.2.1,Sl.v x.2.2.2.2]) y a1 5 λd=>
 eN p0 (d.1,d.2.1,d.2.2.1,d.2.2.2.1,d.2.2.2.2) y λs N z=>
 ag z (row [VI 0,VI 0] 59) λk A=>
 aX A k ([VI s.1,VI s.2]) λa=>
 aJ N
 (aU (λ(x:(Int×Int))=>[VI x.1,VI x.2]) a k 2 λm=>
 aX a c ([VI m.1,VI m.2]) λf=>
 aU (λ(x:(Int×Int))=>[VI x.1,VI x.2]) f c 2 λn=>
 Q (n.1,n.2) f)
 (aH (.int .i64) a (a1.add 0) λb=>
 aJ (b==10)
 (False)
 (aJ (b==11)
 (False)
 (aJ (b==12)
 (aN p0 λI=>
 aH .pointer a (I.add 2) λK=>
 lL K a λO P B=>
 dw O P B λt C=>
 aX C c ([VI t.1,VI t.2]) λg=>
 aU (λ(x:(Int×Int))=>[VI x.1,VI x.2]) g c 2 λo=>
 Q (o.1,o.2) g)
 (aJ (b==13)
 (mP [0,1]<|
 aN p0 λJ=>
 mP [2,3]<|
 aH .pointer a (J.add 2) λL=>
 mP [4,5]<|
 aH (.int .i64) a (a1.add 1) λM=>
 mP [6]<|
 kB L M a λR D=>
 mP [7]<|
 dw 0 R D λu E=>
 mP [8]<|
 aX E c ([VI u.1,VI u.2]) λh=>
 aU (λ(x:(Int×Int))=>[VI x.1,VI x.2]) h c 2 λp=>
 Q (p.1,p.2) h)
 (aJ (b==14)
 (False)
 (aJ (b==15)
 (False)
 (aJ (b==16)
 (False)
 (aJ (b==17)
 (False)
 (aJ (b==18)
 (aU (λ(x:(Int×Int×Int×Int×Sl))=>[VI x.1,VI x.2.1,VI x.2.2.1,VI x.2.2.2.1,Sl.v x.2.2.2.2]) a a1 5 λe=>
 kq p0 (e.1,e.2.1,e.2.2.1,e.2.2.2.1,e.2.2.2.2) a λw F=>
 aX F c ([VI w.1,VI w.2]) λi=>
 aU (λ(x:(Int×Int))=>[VI x.1,VI x.2]) i c 2 λq=>
 Q (q.1,q.2) i)
 (aX a c ([VI 1,VI 0]) λj=>
 aU (λ(x:(Int×Int))=>[VI x.1,VI x.2]) j c 2 λr=>
 Q (r.1,r.2) j)))))))))))
def iO (p0:Option Addr) (p1:Sl) (H:PH) (Q:Sl->PH->Prop):Prop:=
 bp (mL (λe (s1:Sl×Int)=>e 0=VP p0/\e 4=Sl.v s1.1/\e 7=Sl.v p1/\e 8=VI (p1.len:Int)/\e 9=VI s1.2) (λs1 h d=>
 aJ (decide (s1.2<(p1.len:Int)))
 (aM (mB (λe (i:Sl)=>e 0=VP p0/\e 4=Sl.v i/\e 7=Sl.v p1/\e 8=VI (p1.len:Int)/\e 9=VI s1.2) (λi r=>
 d (i,IntKind.wrap .i64 (s1.2+1)) r))
 λo=>
 bX p1 5 s1.2 λn=>
 aU (λ(x:(Int×Int×Int×Int×Sl))=>[VI x.1,VI x.2.1,VI x.2.2.1,VI x.2.2.2.1,Sl.v x.2.2.2.2]) h n 5 λa=>
 ag h (row [VI 0,VI 0,VI 0,VI 0,.slice none 0 0] 43) λf j=>
 aX j f ([VI a.1,VI a.2.1,VI a.2.2.1,VI a.2.2.2.1,Sl.v a.2.2.2.2]) λc=>
 aJ (!(Option.isNone p0))
 (aU (λ(x:(Int×Int×Int×Int×Sl))=>[VI x.1,VI x.2.1,VI x.2.2.1,VI x.2.2.2.1,Sl.v x.2.2.2.2]) c f 5 λb=>
 kf p0 (b.1,b.2.1,b.2.2.1,b.2.2.2.1,b.2.2.2.2) c λg k=>
 bV k (row [VI g.1,VI g.2] 59) 1 λp l=>
 fG l 59 2 16 [VI 0,VI 0] s1.1 p λq m=>
 o q m)
 (o s1.1 c))
 (Q s1.1 h)))
 (Sl.nil,0) H
def qi (p0:Option Addr) (p1:Int) (H:PH) (Q:Int->Bool->PH->Prop):Prop:=
 cV p0 false H λb H1=>
 fV b p1 H1 λc d a=>
 Q c d a
def rF (p0:Option Addr) (p1:Int) (H:PH) (Q:Sl->Int->PH->Prop):Prop:=
 aJ (Option.isNone p0)
 (Q Sl.nil 1 H)
 (aN p0 λq=>
 aH Sl.v H (q.add 9) λd=>
 bp (mL (λp (a:Int)=>p 0=VP p0/\p 1=VI p1/\p 13=Sl.v d/\p 14=VI (d.len:Int)/\p 15=VI a) (λa c b=>
 aJ (decide (a<(d.len:Int)))
 (bX d 1 a λh=>
 aH Sl.v c h λj=>
 kA p0 c λl e=>
 aJ (p1==(IntKind.wrap .i64 (l+a)))
 (bc j e λm f=>
 Q m 0 f)
 (b (IntKind.wrap .i64 (a+1)) e))
 (aN p0 λi=>
 aH .pointer c (i.add 0) λk=>
 eQ k p1 c λn o g=>
 Q n o g)))
 0 H)
def sJ (p0:Option Addr) (p1:Int) (H:PH) (Q:Sl->Int->PH->Prop):Prop:=
 aJ (p1==0)
 (xO H 5 1 [.int .u8 0] 64 64 λf d=>
 Q f 0 d)
 (aN p0 λe=>
 aH .pointer H (e.add 4) λg=>
 rF g p1 H λb c a=>
 Q b c a)
def pd (p0:Option Addr) (p1:Int) (H:PH) (Q:Sl->Int->PH->Prop):Prop:=
 nJ p0 p1 1 H λj H1=>
 ij p0 0 j H1 λg a=>
 aJ (g != 0)
 (Q Sl.nil g a)
 (aN p0 λh=>
 aH .pointer a (h.add 3) λi=>
 qi i p1 a λd k b=>
 sJ p0 d b λe f c=>
 Q e f c)
def pe (p0:Option Addr) (p1:Int) (H:PH) (Q:Sl->Int->PH->Prop):Prop:=
 fX p0 H λi H1=>
 aM (mK 5 (λk (s4:Bool)=>k 0=VP p0/\k 1=VI p1/\k 16=VB s4) (λs4 c=>
 aJ s4
 (Q Sl.nil 7 c)
 (fX p0 c λe j=>
 pd e p1 j λf g a=>
 Q f g a)))
 λd=>
 aJ (!(Option.isNone i))
 (fK i H1 λh b=>
 d (h.1 != 2) b)
 (d false H1)
def lM (p0:Int) (H:PH) (Q:Sl->PH->Prop):Prop:=
 xO H 5 1 [.int .u8 0] 64 64 λb j=>
 bp (mL (λk (s5:Int)=>k 0=VI p0/\k 3=Sl.v b/\k 4=VI s5) (λs5 f a=>
 aJ (decide (s5< 64))
 (fp p0 256 f λh c=>
 fp (IntKind.wrap .i64 (h+s5)) 256 c λi d=>
 bX b 1 s5 λg=>
 aX d g ([.int .u8 (IntKind.wrap .u8 i)]) λe=>
 a (IntKind.wrap .i64 (s5+1)) e)
 (Q b f)))
 0 j
def sK (p0:Sl) (p1:Sl) (H:PH) (Q:Bool->PH->Prop):Prop:=
 aJ ((p0.len:Int) != (p1.len:Int))
 (Q false H)
 (bp (mL (λg (s2:Int)=>g 0=Sl.v p0/\g 1=Sl.v p1/\g 5=VI s2) (λs2 a b=>
 aJ (decide (s2<(p0.len:Int)))
 (mP [0,1,2]<|
 bX p0 1 s2 λe=>
 mP [3]<|
 aH (.int .u8) a e λf=>
 mP [4,5,6]<|
 bX p1 1 s2 λc=>
 mP [7]<|
 aH (.int .u8) a c λd=>
 mP [8]<|
 aJ (f != d)
 (Q false a)
 (b (IntKind.wrap .i64 (s2+1)) a))
 (Q true a)))
 0 H)
def kg (p0:Sl) (p1:Sl) (H:PH) (Q:Bool->PH->Prop):Prop:=
 sK p0 p1 H λa H1=>
 Q a H1
def mW (H:PH) (Q:Bool->PH->Prop):Prop:=
 mE 3 H λJ H1=>
 mN (J.1,J.2.1,J.2.2) 4 H1 λy4 y5 L=>
 aJ (!y5)
 (Q false L)
 (bV L (row [VI 1,VI 2,VI 0,VI 7,Sl.v Sl.nil,VI 3,VI 0,VI 0,VI 0,Sl.v Sl.nil,VI 1,VI 2,VI 0,VI 8,Sl.v Sl.nil,VI 4,VI 0,VI 0,VI 0,Sl.v Sl.nil,VI 6,VI 0,VI 0,VI 0,Sl.v Sl.nil,VI 6,VI 0,VI 0,VI 0,Sl.v Sl.nil,VI 6,VI 0,VI 0,VI 0,Sl.v Sl.nil,VI 12,VI 0,VI 0,VI 0,Sl.v Sl.nil,VI 18,VI 0,VI 0,VI 0,Sl.v Sl.nil,VI 13,VI 9,VI 0,VI 0,Sl.v Sl.nil] 43) 10 λr7 H8=>
 iO y4 r7 H8 λc K=>
 fh y4 K λa s=>
 aM (mK 3 (λb (j:Bool)=>b 3=Sl.v c/\b 4=VP a/\b 35=VB j) (λj t=>
 aJ j
 (Q false t)
 (pe a 2 t λd e f=>
 bX c 2 6 λS=>
 aH (.int .i64) f (S.add 0) λY=>
 aM (mK 6 (λb (k:Bool)=>b 3=Sl.v c/\b 4=VP a/\b 5=Sl.v d/\b 6=VI e/\b 52=VB k) (λk g=>
 aM (mK 6 (λb (l:Bool)=>b 3=Sl.v c/\b 4=VP a/\b 5=Sl.v d/\b 6=VI e/\b 59=VB l) (λl h=>
 aM (mK 6 (λb (m:Bool)=>b 3=Sl.v c/\b 4=VP a/\b 5=Sl.v d/\b 6=VI e/\b 66=VB m) (λm i=>
 aM (mK 6 (λb (n:Bool)=>b 4=VP a/\b 5=Sl.v d/\b 6=VI e/\b 73=VB n) (λn u=>
 aM (mK 3 (λb (o:Bool)=>b 4=VP a/\b 5=Sl.v d/\b 77=VB o) (λo w=>
 aM (mK 4 (λb (p:Bool)=>b 4=VP a/\b 82=VB p) (λp x=>
 aM (mK 5 (λb (q:Bool)=>b 4=VP a/\b 88=VB q) (λq y=>
 aM (mK 5 (λb (r:Bool)=>b 94=VB r) (λr M=>
 Q r M))
 λI=>
 aJ q
 (fL a y λad N=>
 I (ad.1==2) N)
 (I false y)))
 λG=>
 aJ p
 (fL a x λae O=>
 G (ae.2.1==9) O)
 (G false x)))
 λF=>
 aJ o
 (lM 7 w λaf P=>
 kg d af P λag R=>
 F ag R)
 (F false w)))
 λE=>
 aJ n
 (E (e==0) u)
 (E false u)))
 λD=>
 aJ m
 (bX c 2 9 λT=>
 aH (.int .i64) i (T.add 0) λZ=>
 D (Z==0) i)
 (D false i)))
 λC=>
 aJ l
 (bX c 2 8 λU=>
 aH (.int .i64) h (U.add 1) λaa=>
 C (aa==1) h)
 (C false h)))
 λB=>
 aJ k
 (bX c 2 8 λV=>
 aH (.int .i64) g (V.add 0) λab=>
 B (ab==0) g)
 (B false g)))
 λA=>
 aJ (Y==0)
 (bX c 2 6 λX=>
 aH (.int .i64) f (X.add 1) λac=>
 A (ac==3) f)
 (A false f))))
 λz=>
 aJ ((c.len:Int) != 10)
 (z true s)
 (z (Option.isNone a) s))
def rG (p0:Int) (p1:Int) (p2:Int) (H:PH) (Q:Bool->PH->Prop):Prop:=
 aM (mK 4 (λc (s2:Bool)=>c 14=VB s2) (λs2 b=>
 Q s2 b))
 λa=>
 aJ (decide (p1<=p0))
 (a (decide (p0<=p2)) H)
 (a false H)
def ow (p0:Int) (p1:Int) (H:PH) (Q:Int->PH->Prop):Prop:=
 xP p1<|
 Q (IntKind.wrap .i64 (Int.tdiv (IntKind.wrap .i64 ((IntKind.wrap .i64 (p0+p1))- 1)) p1)) H
def oy (p0:(Int×Int×Int)) (H:PH) (Q:Int->PH->Prop):Prop:=
 ag H (row [VI p0.1,VI p0.2.1,VI p0.2.2] 26) λa1 a=>
 aH (.int .i64) a (a1.add 1) λc=>
 ow (IntKind.wrap .i64 (43+(IntKind.wrap .i64 (5*c)))) 64 a λd b=>
 Q d b
def sL (p0:(Int×Int×Int)) (H:PH) (Q:Int->PH->Prop):Prop:=
 ag H (row [VI p0.1,VI p0.2.1,VI p0.2.2] 26) λa1 a=>
 aH (.int .i64) a (a1.add 0) λc=>
 ow c 15 a λd b=>
 Q d b
def sM (p0:(Int×Int×Int)) (p1:Int) (H:PH) (Q:Int->PH->Prop):Prop:=
 ag H (row [VI p0.1,VI p0.2.1,VI p0.2.2] 26) λa1 g=>
 aH (.int .i64) g (a1.add 1) λj=>
 rG p1 0 (IntKind.wrap .i64 (j- 1)) g λk c=>
 aJ (!k)
 (Q (-1) c)
 (mP [0]<|
 aU (λ(x:(Int×Int×Int))=>[VI x.1,VI x.2.1,VI x.2.2]) c a1 3 λf=>
 mP [4]<|
 aU (λ(x:(Int×Int×Int))=>[VI x.1,VI x.2.1,VI x.2.2]) c a1 3 λa=>
 mP [8,9,10]<|
 aH (.int .i64) c (a1.add 2) λd=>
 mP [11,1]<|
 oy (f.1,f.2.1,f.2.2) c λh b=>
 ar b (a1.add 2) (VI d)<|
 fU b a1 3 ([VI a.1,VI a.2.1,VI a.2.2])<|
 mP [2,3,5]<|
 sL (a.1,a.2.1,a.2.2) b λi e=>
 ar e (a1.add 2) (VI d)<|
 mP [6,7,12,13]<|
 Q (IntKind.wrap .i64 ((IntKind.wrap .i64 ((IntKind.wrap .i64 (2+(IntKind.wrap .i64 (2*h))))+(IntKind.wrap .i64 (4*i))))+(IntKind.wrap .i64 (p1*d)))) e)
def kC (p0:(Int×Int×Int)) (H:PH) (Q:Int->PH->Prop):Prop:=
 ag H (row [VI p0.1,VI p0.2.1,VI p0.2.2] 26) λa1 b=>
 mP [0]<|
 aU (λ(x:(Int×Int×Int))=>[VI x.1,VI x.2.1,VI x.2.2]) b a1 3 λc=>
 mP [2,3]<|
 aH (.int .i64) b (a1.add 1) λd=>
 mP [4,5]<|
 aH (.int .i64) b (a1.add 2) λe=>
 mP [6,1]<|
 sM (c.1,c.2.1,c.2.2) 0 b λf a=>
 ar a (a1.add 2) (VI e)<|
 ar a (a1.add 1) (VI d)<|
 mP [7,8]<|
 Q (IntKind.wrap .i64 (f+(IntKind.wrap .i64 (d*e)))) a
def lx (p0:(Int×Int×Int×Int×Sl)) (p1:Int) (H:PH) (Q:(Int×Int×Int×Int×Sl)->Bool->PH->Prop):Prop:=
 ag H (row [VI p0.1,VI p0.2.1,VI p0.2.2.1,VI p0.2.2.2.1,Sl.v p0.2.2.2.2] 43) λa1 r=>
 ag r (row [VI 0,VI 0,VI 0,VI 0,.slice none 0 0] 46) λb a=>
 aH (.int .i64) a (a1.add 0) λm=>
 aJ (m==1)
 (mP [0,1]<|
 aH (.int .i64) a (a1.add 1) λl=>
 mP [2,3]<|
 aH (.int .i64) a (a1.add 3) λn=>
 mP [4]<|
 lM n a λq g=>
 ar g (a1.add 1) (VI l)<|
 mP [5,6]<|
 aX g b ([VI 1,VI l,VI 0,VI 0,Sl.v q]) λh=>
 mP [7]<|
 aU (λ(x:(Int×Int×Int×Int×Sl))=>[VI x.1,VI x.2.1,VI x.2.2.1,VI x.2.2.2.1,Sl.v x.2.2.2.2]) h b 5 λc=>
 Q (c.1,c.2.1,c.2.2.1,c.2.2.2.1,c.2.2.2.2) true h)
 (aJ (m==2)
 (aH (.int .i64) a (a1.add 1) λo=>
 aH (.int .i64) a (a1.add 2) λp=>
 aX a b ([VI 2,VI o,VI p,VI 0,Sl.v Sl.nil]) λi=>
 aU (λ(x:(Int×Int×Int×Int×Sl))=>[VI x.1,VI x.2.1,VI x.2.2.1,VI x.2.2.2.1,Sl.v x.2.2.2.2]) i b 5 λd=>
 Q (d.1,d.2.1,d.2.2.1,d.2.2.2.1,d.2.2.2.2) true i)
 (aJ (m==3)
 (aX a b ([VI 3,VI 0,VI 0,VI (IntKind.wrap .i64 (p1+1)),Sl.v Sl.nil]) λj=>
 aU (λ(x:(Int×Int×Int×Int×Sl))=>[VI x.1,VI x.2.1,VI x.2.2.1,VI x.2.2.2.1,Sl.v x.2.2.2.2]) j b 5 λe=>
 Q (e.1,e.2.1,e.2.2.1,e.2.2.2.1,e.2.2.2.2) true j)
 (aX a b ([VI 0,VI 0,VI 0,VI 0,Sl.v Sl.nil]) λk=>
 aU (λ(x:(Int×Int×Int×Int×Sl))=>[VI x.1,VI x.2.1,VI x.2.2.1,VI x.2.2.2.1,Sl.v x.2.2.2.2]) k b 5 λf=>
 Q (f.1,f.2.1,f.2.2.1,f.2.2.2.1,f.2.2.2.2) false k)))
def rH (p0:Int) (p1:Sl) (p2:Sl) (H:PH) (Q:Bool->PH->Prop):Prop:=
 aM (λ(s2:Bool) (H4:PH)=>
 aJ s2
 (mW H4 λy8 H7=>
 Q y8 H7)
 (mE p0 H4 λab H9=>
 ag H9 (row [VI 0,VI 0,VI 0] 26) λf bl=>
 aX bl f ([VI ab.1,VI ab.2.1,VI ab.2.2]) λai=>
 aU (λ(x:(Int×Int×Int))=>[VI x.1,VI x.2.1,VI x.2.2]) ai f 3 λZ=>
 mN (Z.1,Z.2.1,Z.2.2) 16 ai λae bE aj=>
 aU (λ(x:(Int×Int×Int))=>[VI x.1,VI x.2.1,VI x.2.2]) aj f 3 λaa=>
 kC (aa.1,aa.2.1,aa.2.2) aj λbF bm=>
 tL bF bm λs bG ak=>
 aM (λ(bx:Bool) (al:PH)=>
 aM (λ(bz:Bool) (L:PH)=>
 aM (λ(bA:Bool) (am:PH)=>
 aJ bA
 (Q false am)
 (rj s 16 am λah bH an=>
 aM (λ(bB:Bool) (ao:PH)=>
 aJ bB
 (Q false ao)
 (bp (λ(d:Int×Int) (h:PH) (t:(Int×Int)->PH->Prop)=>
 aJ (decide (d.2<(p1.len:Int)))
 (aM (λ(Y:Addr) (ap:PH)=>
 bX p1 3 d.2 λbt=>
 fW 3 bt 1 0 λbu=>
 aH (.int .i64) ap bu λbC=>
 fp bC 4 ap λbI aq=>
 aM (λ(bL:Unit) (au:PH)=>
 aU (λ(x:(Int×Int×Int×Int×Sl))=>[VI x.1,VI x.2.1,VI x.2.2.1,VI x.2.2.2.1,Sl.v x.2.2.2.2]) au Y 5 λi=>
 lx (i.1,i.2.1,i.2.2.1,i.2.2.2.1,i.2.2.2.2) d.1 au λl bM bn=>
 ag bn (row [VI 0,VI 0,VI 0,VI 0,.slice none 0 0] 46) λO bo=>
 aX bo O ([VI l.1,VI l.2.1,VI l.2.2.1,VI l.2.2.2.1,Sl.v l.2.2.2.2]) λM=>
 aH (.int .i64) M (O.add 0) λbD=>
 aU (λ(x:(Int×Int×Int×Int×Sl))=>[VI x.1,VI x.2.1,VI x.2.2.1,VI x.2.2.2.1,Sl.v x.2.2.2.2]) M Y 5 λj=>
 bV M (row [VI j.1,VI j.2.1,VI j.2.2.1,VI j.2.2.2.1,Sl.v j.2.2.2.2,VI 4,VI 0,VI 0,VI 0,Sl.v Sl.nil,VI 6,VI 0,VI 0,VI 0,Sl.v Sl.nil,VI 19,VI 0,VI 0,VI 0,Sl.v Sl.nil] 43) 4 λbw bq=>
 iO ae bw bq λaC av=>
 aU (λ(x:(Int×Int×Int×Int×Sl))=>[VI x.1,VI x.2.1,VI x.2.2.1,VI x.2.2.2.1,Sl.v x.2.2.2.2]) av O 5 λk=>
 uT 1 (IntKind.wrap .i64 (d.2+1)) (k.1,k.2.1,k.2.2.1,k.2.2.2.1,k.2.2.2.2) av λe bJ br=>
 ag br (row [VI 0,VI 0,VI 0,VI 0,VI 0,VI 0,VI 0,.slice none 0 0] 52) λaw bs=>
 aX bs aw ([VI e.1,VI e.2.1,VI e.2.2.1,VI e.2.2.2.1,VI e.2.2.2.2.1,VI e.2.2.2.2.2.1,VI e.2.2.2.2.2.2.1,Sl.v e.2.2.2.2.2.2.2]) λu=>
 aU (λ(x:(Int×Int×Int×Int×Int×Int×Int×Sl))=>[VI x.1,VI x.2.1,VI x.2.2.1,VI x.2.2.2.1,VI x.2.2.2.2.1,VI x.2.2.2.2.2.1,VI x.2.2.2.2.2.2.1,Sl.v x.2.2.2.2.2.2.2]) u aw 8 λc=>
 kc (c.1,c.2.1,c.2.2.1,c.2.2.2.1,c.2.2.2.2.1,c.2.2.2.2.2.1,c.2.2.2.2.2.2.1,c.2.2.2.2.2.2.2) u λa8 a9 aD=>
 mR ah a8 aD λbK ac w=>
 aM (λ(aY:Bool) (y:PH)=>
 aM (λ(aZ:Bool) (m:PH)=>
 aM (λ(a0:Bool) (z:PH)=>
 aM (λ(a1:Bool) (A:PH)=>
 aM (λ(a2:Bool) (B:PH)=>
 aJ a2
 (Q false B)
 (t (IntKind.wrap .i64 (d.1+(IntKind.wrap .i64 (Int.tdiv bD 3))),IntKind.wrap .i64 (d.2+1)) B))
 λU=>
 aJ a1
 (U true A)
 (fh ae A λba aE=>
 fL ba aE λa aF=>
 fL ah aF λb aG=>
 U (!(qA [a.1==b.1,a.2.1==b.2.1,a.2.2.1==b.2.2.1,a.2.2.2.1==b.2.2.2.1,a.2.2.2.2.1==b.2.2.2.2.1,a.2.2.2.2.2.1==b.2.2.2.2.2.1,a.2.2.2.2.2.2.1==b.2.2.2.2.2.2.1,a.2.2.2.2.2.2.2.1==b.2.2.2.2.2.2.2.1,a.2.2.2.2.2.2.2.2.1==b.2.2.2.2.2.2.2.2.1,a.2.2.2.2.2.2.2.2.2==b.2.2.2.2.2.2.2.2.2])) aG))
 λT=>
 aJ a0
 (T true z)
 (T (ac != 0) z))
 λS=>
 aJ aZ
 (S true m)
 (bX aC 2 2 λaS=>
 aH (.int .i64) m (aS.add 0) λa5=>
 S (a5 != ac) m))
 λR=>
 aJ aY
 (R true y)
 (R ((aC.len:Int) != 4) y))
 λP=>
 aJ (!bJ)
 (P true w)
 (P (a9 != 0) w))
 λaB=>
 aJ (bI==0)
 (aX aq Y ([VI 3,VI 0,VI 0,VI 0,Sl.v Sl.nil]) λaI=>
 aB () aI)
 (aB () aq))
 λbv=>
 bX p1 3 d.2 λaT=>
 fW 3 aT 1 1 λaV=>
 aH (.int .i64) h aV λa6=>
 aH (.int .i64) h (f.add 0) λa7=>
 bX p1 3 d.2 λaW=>
 fW 3 aW 1 2 λn=>
 aH (.int .i64) h n λp=>
 fp a6 a7 h λbb C=>
 ar C n (VI p)<|
 ag C (row [VI 0,VI 0,VI 0,VI 0,.slice none 0 0] 43) λN D=>
 ar D n (VI p)<|
 aX D N ([VI 1,VI bb,VI 0,VI p,Sl.v Sl.nil]) λaK=>
 bv N aK)
 (jS ae h λbc aL=>
 il bc p2 aL λad aN=>
 il s p2 aN λaf E=>
 aM (λ(a3:Bool) (F:PH)=>
 aJ a3
 (Q false F)
 (bp (λ(g:Int) (G:PH) (o:Int->PH->Prop)=>
 aU (λ(x:(Int×Int×Int))=>[VI x.1,VI x.2.1,VI x.2.2]) G f 3 λq=>
 kC (q.1,q.2.1,q.2.2) G λbd I=>
 aJ (decide (g<bd))
 (eQ ad g I λbe bf aO=>
 eQ af g aO λbg bh J=>
 aM (λ(a4:Bool) (K:PH)=>
 aJ a4
 (Q false K)
 (o (IntKind.wrap .i64 (g+1)) K))
 λX=>
 aJ (bf != bh)
 (X true J)
 (kg be bg J λbi aP=>
 X (!bi) aP))
 (mW I λbj aQ=>
 Q bj aQ))
 0 F))
 λV=>
 aJ (Option.isNone ad)
 (V true E)
 (V (Option.isNone af) E)))
 (0,0) ao))
 λaA=>
 aJ (bH != 0)
 (aA true an)
 (aA (Option.isNone ah) an)))
 λaz=>
 aJ bz
 (az true L)
 (aU (λ(x:(Int×Int×Int))=>[VI x.1,VI x.2.1,VI x.2.2]) L f 3 λr=>
 rB s (r.1,r.2.1,r.2.2) 1 L λbk aR=>
 az (bk != 0) aR))
 λay=>
 aJ bx
 (ay true al)
 (ay (Option.isNone s) al))
 λax=>
 aJ (!bE)
 (ax true ak)
 (ax (bG != 0) ak)))
 λj3=>
 aJ (decide (30<(p1.len:Int)))
 (j3 true H)
 (j3 (decide (100<(p2.len:Int))) H)
def yX (p0:(Int×Int×Int×Int)) (H:PH) (Q:Bool->PH->Prop):Prop:=
 ag H (row [VI p0.1,VI p0.2.1,VI p0.2.2.1,VI p0.2.2.2] 230) λa1 a=>
 aH (.int .i64) a (a1.add 0) λb=>
 Q (b==7) a
def xY (p0:Int) (H:PH) (Q:Bool->PH->Prop):Prop:=
 aM (λ(s2:Bool) (b:PH)=>
 Q s2 b)
 λa=>
 aJ (p0 != 0)
 (a (p0 != 1) H)
 (a false H)
def uL (p0:(Int×Int)) (H:PH) (Q:Bool->PH->Prop):Prop:=
 ag H (row [VI p0.1,VI p0.2] 201) λa1 a=>
 aH (.int .i64) a (a1.add 0) λb=>
 Q (b==0) a
def zx (p0:Sl) (H:PH) (Q:Bool->PH->Prop):Prop:=
 Q ((p0.len:Int) != 64) H
end
end Go.Proofs.YtbijlklgbfminaaGreat
