import Derived.Test.YtbijlklgbfminaaGreatA24
set_option linter.unusedVariables false
set_option linter.unusedSimpArgs false
namespace Go.Proofs.YtbijlklgbfminaaGreat
section
open Go Go.Kx Go.Proofs Go.Kx.Au Go.Kx.W
set_option maxRecDepth 20000
set_option maxHeartbeats 2000000
instance zN {p0 p1 p2 H Q}:aj Tryz.prog 3 (rH p0 p1 p2 H Q) [VI p0,Sl.v p1,Sl.v p2] H (λv H'=>∃ r0,v= .bool r0/\Q r0 H'):=⟨λh=>by
 unfold rH at h
 refine F Tryz.func3 rfl Tryz.ntmps3<|R<|q (aB rfl)<|z<|s<|R<|q (mS rfl)<|q (ju Tryz.underlying22 rfl (qo rfl))<|q (pM rfl rfl)<|q (mB rfl)<|?_
 refine cS 4 (λc (s2:Bool)=>c 0=VI p0/\c 1=Sl.v p1/\c 2=Sl.v p2/\c 40=VB s2) h ?_ ?_<;>clear h
 ·intro s2 H4 c h k
  obtain⟨dy,cA,cB,bV⟩:=k
  refine z<|J h (λcD h=>?_) λcD h=>?_
  ·exact C cD bV<|R<|c1 (cb h) (cu h) rfl λy8 H7 h=>q (aB rfl)<|z<|E1 rfl rfl h
  ·refine N cD bV<|K<|R<|q (mI dy)<|c1 (cb h) (cu h) rfl λfr H9 h=>od<|cT xZ rfl λn dV dC=>gY (h n dV dC) λh=>st h bq rfl rfl λ_ h=>z<|R<|y h λfm dF h=>q (A eY rfl dF)<|c2 (cb h) (cu h) rfl λO fs eZ h=>q (mT rfl)<|q (e rfl rfl)<|q (e rfl rfl)<|q (aP rfl)<|q (aB rfl)<|z<|R<|y h λfn dG h=>q (A eY rfl dG)<|c1 (cb h) (cu h) rfl λft e0 h=>c2 (cb h) (cu h) rfl λG d5 e1 h=>q (mT rfl)<|q (e rfl rfl)<|q (e rfl rfl)<|q (aP rfl)<|q (aI rfl)<|z<|s<|R<|q (mB rfl)<|q (jH rfl)<|q (mB rfl)<|?_
   refine cS 3 (λc (dn:Bool)=>c 1=Sl.v p1/\c 2=Sl.v p2/\c 7=VA n/\c 8=VP O/\c 10=VP G/\c 60=VB dn) h ?_ ?_<;>clear h
   ·intro dn e2 c h k
    obtain⟨bJ,bK,bL,bN,ap,cw⟩:=k
    refine q (mB cw)<|?_
    refine cS 3 (λc (dp:Bool)=>c 1=Sl.v p1/\c 2=Sl.v p2/\c 7=VA n/\c 8=VP O/\c 10=VP G/\c 64=VB dp) h ?_ ?_<;>clear h
    ·intro dp e3 c h k
     obtain⟨bO,bP,aV,bQ,aq,cx⟩:=k
     refine q (mB cx)<|?_
     refine cS 5 (λc (dq:Bool)=>c 1=Sl.v p1/\c 2=Sl.v p2/\c 7=VA n/\c 8=VP O/\c 10=VP G/\c 70=VB dq) h ?_ ?_<;>clear h
     ·intro dq e4 c h k
      obtain⟨bR,bS,bT,bU,ar,bk⟩:=k
      refine z<|J h (λbE h=>?_) λbE h=>?_
      ·exact C bE bk<|R<|q (aB rfl)<|z<|E1 rfl rfl h
      ·refine N bE bk<|K<|R<|q (mP ar)<|c2 (cb h) (cu h) rfl λS fu e5 h=>q (mT rfl)<|q (e rfl rfl)<|q (e rfl rfl)<|q (aP rfl)<|q (aI rfl)<|z<|s<|R<|q (mI rfl)<|q (eP rfl rfl)<|q (mB rfl)<|?_
       refine cS 3 (λc (ds:Bool)=>c 1=Sl.v p1/\c 2=Sl.v p2/\c 7=VA n/\c 8=VP O/\c 10=VP G/\c 12=VP S/\c 81=VB ds) h ?_ ?_<;>clear h
       ·intro ds e6 c h k
        obtain⟨c0,c3,c4,c5,cy,cz,bl⟩:=k
        refine z<|J h (λbF h=>?_) λbF h=>?_
        ·exact C bF bl<|R<|q (aB rfl)<|z<|E1 rfl rfl h
        ·refine N bF bl<|K<|R<|q (aI rfl)<|z<|s<|R<|q (aI rfl)<|z<|b<|?_
         refine qK (λc (m:Int×Int)=>c 1=Sl.v p1/\c 2=Sl.v p2/\c 7=VA n/\c 8=VP O/\c 10=VP G/\c 12=VP S/\c 14=VI m.1/\c 15=VI m.2) h ⟨c0,c3,c4,c5,cy,cz,rfl,rfl⟩ ?_
         clear h
         intro c m e7 dU k h bD
         obtain⟨aa,ai,ab,aW,au,bm,bn,P⟩:=k
         refine s<|R<|q (mI P)<|q (mS aa)<|q (ju Tryz.underlying22 rfl (qo rfl))<|q (jO rfl rfl)<|z<|J h (λbG h=>?_) λbG h=>?_
         ·refine C bG rfl<|K<|s<|b<|s<|?_
          refine rW 1 (λc (cX:Addr)=>c 1=Sl.v p1/\c 2=Sl.v p2/\c 7=VA n/\c 8=VP O/\c 10=VP G/\c 12=VP S/\c 14=VI m.1/\c 15=VI m.2/\c 16=VA cX) h ?_ ?_<;>clear h
          ·intro cX e8 c h k
           obtain⟨aX,bW,bX,bY,bo,bp,br,av,aw⟩:=k
           refine s<|R<|q (mS aX)<|q (mI av)<|y h λfe dz h=>q (kj dB dz rfl rfl)<|y h λff dA h=>q (m9 tK dA rfl rfl)<|y h λfo dH h=>q (a aR rfl dH)<|c1 (cb h) (cu h) rfl λfv e9 h=>q (xN rfl rfl)<|z<|?_
           refine rW 1 (λc (d4:Unit)=>c 1=Sl.v p1/\c 2=Sl.v p2/\c 7=VA n/\c 8=VP O/\c 10=VP G/\c 12=VP S/\c 14=VI m.1/\c 15=VI m.2/\c 16=VA cX) h ?_ ?_<;>clear h
           ·intro d4 fa c h k
            obtain⟨bZ,b0,b1,aY,bs,ax,bt,ay,bu⟩:=k
            refine R<|y h λfp dI h=>q (A eY bu dI)<|q (mI bt)<|c2 (cb h) (cu h) rfl λfw fx fb h=>q (mT rfl)<|q (e rfl rfl)<|q (e rfl rfl)<|od<|cT xZ rfl λdZ dW dD=>gY (h dZ dW dD) λh=>st h bq rfl rfl λ_ h=>q (aB rfl)<|z<|R<|q (mI bt)<|q (f bB rfl)<|y h λbw dJ h=>q (a aR rfl dJ)<|q (JS (by decide) rfl rfl)<|q (de rfl rfl)<|q (aI rfl)<|z<|R<|q (mP aY)<|y h λD dK h=>q (A eY bu dK)<|q (cH (cs:=[VI 4,VI 0,VI 0,VI 0,Sl.v Sl.nil]) iv xZ rfl rfl (by kernel_rfl))<|q (cH (cs:=[VI 6,VI 0,VI 0,VI 0,Sl.v Sl.nil]) iv xZ rfl rfl (by kernel_rfl))<|q (cH (cs:=[VI 19,VI 0,VI 0,VI 0,Sl.v Sl.nil]) iv xZ rfl rfl (by kernel_rfl))<|od<|nA (ps:=[(0,.agg ([VI D.1,VI D.2.1,VI D.2.2.1,VI D.2.2.2.1,Sl.v D.2.2.2.2]:List Value).toArray),(1,.agg ([VI 4,VI 0,VI 0,VI 0,Sl.v Sl.nil]:List Value).toArray),(2,.agg ([VI 6,VI 0,VI 0,VI 0,Sl.v Sl.nil]:List Value).toArray),(3,.agg ([VI 19,VI 0,VI 0,VI 0,Sl.v Sl.nil]:List Value).toArray)]) (zs:=[VI 0,VI 0,VI 0,VI 0,.slice none 0 0]) (cs:=[VI D.1,VI D.2.1,VI D.2.2.1,VI D.2.2.2.1,Sl.v D.2.2.2.2,VI 4,VI 0,VI 0,VI 0,Sl.v Sl.nil,VI 6,VI 0,VI 0,VI 0,Sl.v Sl.nil,VI 19,VI 0,VI 0,VI 0,Sl.v Sl.nil]) dB xZ rfl rfl (by decide) (by decide) rfl (nC (tot:=20) (css:=[[VI D.1,VI D.2.1,VI D.2.2.1,VI D.2.2.2.1,Sl.v D.2.2.2.2],[VI 4,VI 0,VI 0,VI 0,Sl.v Sl.nil],[VI 6,VI 0,VI 0,VI 0,Sl.v Sl.nil],[VI 19,VI 0,VI 0,VI 0,Sl.v Sl.nil]]) (.cons rfl rfl rfl (.cons rfl rfl rfl (.cons rfl rfl rfl (.cons rfl rfl rfl (.nil rfl))))) rfl) λd3 dX dE=>gY (h d3 dX dE) λh=>c1 (cb h) (cu h) rfl λcZ fc h=>q (aS rfl)<|z<|R<|q (mI ay)<|q (de rfl rfl)<|y h λfq dL h=>q (A eY rfl dL)<|c2 (cb h) (cu h) rfl λfy fz fd h=>q (mT rfl)<|q (e rfl rfl)<|q (e rfl rfl)<|od<|cT xZ rfl λd0 dY db=>gY (h d0 dY db) λh=>st h bq rfl rfl λ_ h=>q (aB rfl)<|z<|R<|y h λeI di h=>q (A eY rfl di)<|c2 (cb h) (cu h) rfl λeN dO d7 h=>q (mT rfl)<|q (e rfl rfl)<|q (e rfl rfl)<|q (aS rfl)<|q (aI rfl)<|z<|R<|q (mP ax)<|q (mS rfl)<|c2 (cb h) (cu h) rfl λeO az d8 h=>q (mT rfl)<|q (e rfl rfl)<|q (e rfl rfl)<|q (aS rfl)<|q (aI rfl)<|z<|R<|q (mB rfl)<|q (jH rfl)<|q (mB rfl)<|?_
            refine cS 3 (λc (cN:Bool)=>c 1=Sl.v p1/\c 2=Sl.v p2/\c 7=VA n/\c 8=VP O/\c 10=VP G/\c 12=VP S/\c 14=VI (IntKind.wrap .i64 (m.1+(IntKind.wrap .i64 (Int.tdiv bw 3))))/\c 15=VI m.2/\c 19=Sl.v cZ/\c 25=VI az/\c 151=VB cN) h ?_ ?_<;>clear h
            ·intro cN d9 c h k
             obtain⟨a5,a6,a7,a8,aA,aC,aD,aE,ad,aF,bx⟩:=k
             refine q (mB bx)<|?_
             refine cS 4 (λc (cO:Bool)=>c 1=Sl.v p1/\c 2=Sl.v p2/\c 7=VA n/\c 8=VP O/\c 10=VP G/\c 12=VP S/\c 14=VI (IntKind.wrap .i64 (m.1+(IntKind.wrap .i64 (Int.tdiv bw 3))))/\c 15=VI m.2/\c 19=Sl.v cZ/\c 25=VI az/\c 156=VB cO) h ?_ ?_<;>clear h
             ·intro cO ea c h k
              obtain⟨a9,ba,bb,bc,aG,aH,aJ,aK,cd,ae,bz⟩:=k
              refine q (mB bz)<|?_
              refine cS 7 (λc (cQ:Bool)=>c 1=Sl.v p1/\c 2=Sl.v p2/\c 7=VA n/\c 8=VP O/\c 10=VP G/\c 12=VP S/\c 14=VI (IntKind.wrap .i64 (m.1+(IntKind.wrap .i64 (Int.tdiv bw 3))))/\c 15=VI m.2/\c 25=VI az/\c 164=VB cQ) h ?_ ?_<;>clear h
              ·intro cQ eb c h k
               obtain⟨bd,be,bf,bg,aL,aM,aN,aO,ce,bA⟩:=k
               refine q (mB bA)<|?_
               refine cS 3 (λc (cR:Bool)=>c 1=Sl.v p1/\c 2=Sl.v p2/\c 7=VA n/\c 8=VP O/\c 10=VP G/\c 12=VP S/\c 14=VI (IntKind.wrap .i64 (m.1+(IntKind.wrap .i64 (Int.tdiv bw 3))))/\c 15=VI m.2/\c 168=VB cR) h ?_ ?_<;>clear h
               ·intro cR ec c h k
                obtain⟨bh,bi,bj,ak,aQ,af,aT,aU,bC⟩:=k
                refine q (mB bC)<|?_
                refine cS 7 (λc (cU:Bool)=>c 1=Sl.v p1/\c 2=Sl.v p2/\c 7=VA n/\c 8=VP O/\c 10=VP G/\c 12=VP S/\c 14=VI (IntKind.wrap .i64 (m.1+(IntKind.wrap .i64 (Int.tdiv bw 3))))/\c 15=VI m.2/\c 176=VB cU) h ?_ ?_<;>clear h
                ·intro cU ed c h k
                 obtain⟨co,cp,cq,cr,cf,cg,ch,ci,al⟩:=k
                 refine z<|J h (λaZ h=>?_) λaZ h=>?_
                 ·exact C aZ al<|R<|q (aB rfl)<|z<|E1 rfl rfl h
                 ·exact N aZ al<|K<|B<|r<|q (mI ci)<|q (de rfl rfl)<|q (aI rfl)<|z<|bD _ _ _ h ⟨co,cp,cq,cr,cf,cg,ch,rfl⟩
                ·intro eF b6 h
                 refine J h (λj h=>?_) λj h=>?_
                 ·exact o j<|o j<|o j<|o j<|o j<|o j<|q (jB j rfl rfl)<|b6 true _ _ h (by exact⟨bh,bi,bj,ak,aQ,af,aT,aU,rfl⟩)
                 ·exact w j (mP ak)<|k1 j (cb h) (cu h) rfl λeQ ee h=>k1 j (cb h) (cu h) rfl λd ef h=>w j (mP af)<|k1 j (cb h) (cu h) rfl λg eg h=>w j (V (.bool (!(qA [d.1==g.1,d.2.1==g.2.1,d.2.2.1==g.2.2.1,d.2.2.2.1==g.2.2.2.1,d.2.2.2.2.1==g.2.2.2.2.1,d.2.2.2.2.2.1==g.2.2.2.2.2.1,d.2.2.2.2.2.2.1==g.2.2.2.2.2.2.1,d.2.2.2.2.2.2.2.1==g.2.2.2.2.2.2.2.1,d.2.2.2.2.2.2.2.2.1==g.2.2.2.2.2.2.2.2.1,d.2.2.2.2.2.2.2.2.2==g.2.2.2.2.2.2.2.2.2]))) (R2 To (HS Tryz.underlying61 SK (.cons (by decide) (nj Tryz.underlying3 rfl rfl) (.cons (by decide) (nj Tryz.underlying3 rfl rfl) (.cons (by decide) (nj Tryz.underlying3 rfl rfl) (.cons (by decide) (nj Tryz.underlying3 rfl rfl) (.cons (by decide) (nj Tryz.underlying3 rfl rfl) (.cons (by decide) (nj Tryz.underlying3 rfl rfl) (.cons (by decide) (nj Tryz.underlying3 rfl rfl) (.cons (by decide) (nj Tryz.underlying3 rfl rfl) (.cons (by decide) (nj Tryz.underlying3 rfl rfl) (.cons (by decide) (nj Tryz.underlying3 rfl rfl) rfl))))))))))) rfl rfl))<|q (nB j rfl rfl)<|b6 (!(qA [d.1==g.1,d.2.1==g.2.1,d.2.2.1==g.2.2.1,d.2.2.2.1==g.2.2.2.1,d.2.2.2.2.1==g.2.2.2.2.1,d.2.2.2.2.2.1==g.2.2.2.2.2.1,d.2.2.2.2.2.2.1==g.2.2.2.2.2.2.1,d.2.2.2.2.2.2.2.1==g.2.2.2.2.2.2.2.1,d.2.2.2.2.2.2.2.2.1==g.2.2.2.2.2.2.2.2.1,d.2.2.2.2.2.2.2.2.2==g.2.2.2.2.2.2.2.2.2])) _ _ h (by exact⟨bh,bi,bj,ak,aQ,af,aT,aU,rfl⟩)
               ·intro eE b5 h
                refine J h (λL h=>?_) λL h=>?_
                ·exact o L<|o L<|q (jB L rfl rfl)<|b5 true _ _ h (by exact⟨bd,be,bf,bg,aL,aM,aN,aO,rfl⟩)
                ·exact w L (mI ce)<|w L (eP rfl rfl)<|q (nB L rfl rfl)<|b5 (az != 0) _ _ h (by exact⟨bd,be,bf,bg,aL,aM,aN,aO,rfl⟩)
              ·intro eD b4 h
               refine J h (λi h=>?_) λi h=>?_
               ·exact o i<|o i<|o i<|o i<|o i<|o i<|q (jB i rfl rfl)<|b4 true _ _ h (by exact⟨a9,ba,bb,bc,aG,aH,aJ,aK,ae,rfl⟩)
               ·exact w i (mS cd)<|y h λew c6 h=>w i (kj dB c6 rfl rfl)<|w i (f bB rfl)<|y h λdM dj h=>w i (a aR rfl dj)<|w i (mI ae)<|w i (eP rfl rfl)<|q (nB i rfl rfl)<|b4 (dM != az) _ _ h (by exact⟨a9,ba,bb,bc,aG,aH,aJ,aK,ae,rfl⟩)
             ·intro eC b3 h
              refine J h (λu h=>?_) λu h=>?_
              ·exact o u<|o u<|o u<|q (jB u rfl rfl)<|b3 true _ _ h (by exact⟨a5,a6,a7,a8,aA,aC,aD,aE,ad,aF,rfl⟩)
              ·exact w u (mS ad)<|w u (ju Tryz.underlying49 rfl (qo rfl))<|w u (eP rfl rfl)<|q (nB u rfl rfl)<|b3 ((cZ.len:Int) != 4) _ _ h (by exact⟨a5,a6,a7,a8,aA,aC,aD,aE,ad,aF,rfl⟩)
            ·intro eB b2 h
             refine J h (λI h=>?_) λI h=>?_
             ·exact o I<|o I<|q (jB I rfl rfl)<|b2 true _ _ h (by exact⟨bZ,b0,b1,aY,bs,ax,rfl,ay,rfl,rfl,rfl⟩)
             ·exact w I (mI rfl)<|w I (eP rfl rfl)<|q (nB I rfl rfl)<|b2 (dO != 0) _ _ h (by exact⟨bZ,b0,b1,aY,bs,ax,rfl,ay,rfl,rfl,rfl⟩)
           ·intro fl cL h
            refine J h (λa0 h=>?_) λa0 h=>?_
            ·exact C a0 rfl<|r<|q (cH (cs:=[VI 3,VI 0,VI 0,VI 0,Sl.v Sl.nil]) iv xZ rfl rfl (by kernel_rfl))<|st h bq aw rfl λ_ h=>z<|cL _ _ _ h ⟨aX,bW,bX,bY,bo,bp,br,av,aw⟩
            ·exact N a0 rfl<|K<|cL _ _ _ h ⟨aX,bW,bX,bY,bo,bp,br,av,aw⟩
          ·intro fk cK h
           refine dr gz<|p 0 rfl (mS aa)<|p 1 rfl (mI P)<|y h λex c7 h=>p 2 rfl (kj dB c7 rfl rfl)<|y h λey c8 h=>p 3 rfl (m9 tK c8 rfl rfl)<|y h λeJ b9 h=>pl 4 rfl (a aR rfl b9)<|p 5 rfl (f bB ab)<|y h λeK ca h=>pl 6 rfl (a aR rfl ca)<|p 8 rfl (mS aa)<|p 9 rfl (mI P)<|y h λez c9 h=>p 10 rfl (kj dB c9 rfl rfl)<|y h λeA da h=>p 11 rfl (m9 tK da rfl rfl)<|y h λcY cc h=>pl 12 rfl (a aR rfl cc)<|?_
           refine dN (R:=[7,14]) (by decide+kernel) ⟨?_,?_,trivial⟩
           ·refine bM (S2:=8191) rfl (by decide+kernel) (by decide) rfl ?_
            exact d1 (cb h) (cu h) rfl λdP eh h=>t h λdf h=>re (rr rfl rfl (a aR rfl df)<|rl [7]<|rl [7]<|rfl)<|p 13 rfl (cH (cs:=[VI 1,VI dP,VI 0,VI cY,Sl.v Sl.nil]) iv xZ rfl rfl (by kernel_rfl))<|po 14 rfl<|cT xZ rfl λdu dt dc=>gY (h du dt dc) λh=>t h λdg h=>re (rr rfl rfl (a aR rfl dg)<|rfl)<|po 15 rfl<|dS h bq rfl rfl λ_ h=>re (rl [15]<|rfl)<|Z<|cK _ _ _ h ⟨aa,ai,ab,aW,au,bm,bn,P,rfl⟩
           ·refine bM (S2:=24447) rfl (by decide+kernel) (by decide) rfl ?_
            refine oY xZ rfl λdx dv d2 cC cM=>?_
            refine re (rr rfl rfl (a aR rfl cc)<|rr rfl rfl (a aR rfl ca)<|rr rfl rfl (a aR rfl b9)<|rfl)<|po 7 rfl<|d1 (cb h) (cu h) rfl λdQ ei h=>t h λdh h=>re (rr rfl rfl (a aR rfl dh)<|rl [7]<|rl [7]<|rfl)<|p 13 rfl (cH (cs:=[VI 1,VI dQ,VI 0,VI cY,Sl.v Sl.nil]) iv xZ rfl rfl (by kernel_rfl))<|?_
            refine cJ cC λdd=>?_
            exact gY (h dv _ ⟨dx,dd,cM,rfl⟩) λh=>t h λd6 h=>po 15 rfl<|dS h bq rfl rfl λ_ h=>re (rl [15]<|rfl)<|Z<|cK _ _ _ h ⟨aa,ai,ab,aW,au,bm,bn,P,rfl⟩
         ·refine N bG rfl<|X rfl<|R<|q (mP aW)<|c1 (cb h) (cu h) rfl λeR ej h=>q (mS ai)<|c1 (cb h) (cu h) rfl λbI ek h=>q (mP au)<|q (mS ai)<|c1 (cb h) (cu h) rfl λa4 el h=>q (aP rfl)<|q (aP rfl)<|z<|s<|R<|q (mP rfl)<|q (je Tryz.underlying31 rfl rfl)<|q (mB rfl)<|?_
          refine cS 3 (λc (cV:Bool)=>c 7=VA n/\c 26=VP bI/\c 27=VP a4/\c 189=VB cV) h ?_ ?_<;>clear h
          ·intro cV em c h k
           obtain⟨ct,cj,ck,am⟩:=k
           refine z<|J h (λa1 h=>?_) λa1 h=>?_
           ·exact C a1 am<|R<|q (aB rfl)<|z<|E1 rfl rfl h
           ·refine N a1 am<|K<|s<|R<|q (aI rfl)<|z<|b<|?_
            refine qK (λc (bH:Int)=>c 7=VA n/\c 26=VP bI/\c 27=VP a4/\c 28=VI bH) h ⟨ct,cj,ck,rfl⟩ ?_
            clear h
            intro c bH en dw k h bv
            obtain⟨an,ag,ah,E⟩:=k
            refine s<|R<|q (mI E)<|y h λeL dk h=>q (A eY an dk)<|c1 (cb h) (cu h) rfl λeS eo h=>q (jO rfl rfl)<|z<|J h (λa2 h=>?_) λa2 h=>?_
            ·refine C a2 rfl<|K<|s<|b<|R<|q (mP ag)<|q (mI E)<|c2 (cb h) (cu h) rfl λeT eU ep h=>q (mT rfl)<|q (e rfl rfl)<|q (e rfl rfl)<|q (aS rfl)<|q (aI rfl)<|z<|R<|q (mP ah)<|q (mI E)<|c2 (cb h) (cu h) rfl λeV eW er h=>q (mT rfl)<|q (e rfl rfl)<|q (e rfl rfl)<|q (aS rfl)<|q (aI rfl)<|z<|R<|q (mI rfl)<|q (mI rfl)<|q (eP rfl rfl)<|q (mB rfl)<|?_
             refine cS 5 (λc (cW:Bool)=>c 7=VA n/\c 26=VP bI/\c 27=VP a4/\c 28=VI bH/\c 216=VB cW) h ?_ ?_<;>clear h
             ·intro cW es c h k
              obtain⟨cv,cl,cm,cn,ao⟩:=k
              refine z<|J h (λa3 h=>?_) λa3 h=>?_
              ·exact C a3 ao<|R<|q (aB rfl)<|z<|E1 rfl rfl h
              ·exact N a3 ao<|K<|B<|r<|q (mI cn)<|q (de rfl rfl)<|q (aI rfl)<|z<|bv _ _ _ h ⟨cv,cl,cm,rfl⟩
             ·intro eH b8 h
              refine J h (λl h=>?_) λl h=>?_
              ·exact o l<|o l<|o l<|o l<|q (jB l rfl rfl)<|b8 true _ _ h (by exact⟨an,ag,ah,E,rfl⟩)
              ·exact w l (mS rfl)<|w l (mS rfl)<|k1 l (cb h) (cu h) rfl λdR et h=>w l (jH rfl)<|q (nB l rfl rfl)<|b8 (!dR) _ _ h (by exact⟨an,ag,ah,E,rfl⟩)
            ·exact N a2 rfl<|X rfl<|R<|c1 (cb h) (cu h) rfl λeX eu h=>q (aB rfl)<|z<|E1 rfl rfl h
          ·intro eG b7 h
           refine J h (λM h=>?_) λM h=>?_
           ·exact o M<|o M<|q (jB M rfl rfl)<|b7 true _ _ h (by exact⟨ab,rfl,rfl,rfl⟩)
           ·exact w M (mP rfl)<|w M (je Tryz.underlying31 rfl rfl)<|q (nB M rfl rfl)<|b7 (Option.isNone a4) _ _ h (by exact⟨ab,rfl,rfl,rfl⟩)
       ·intro fj cI h
        refine J h (λY h=>?_) λY h=>?_
        ·exact o Y<|o Y<|q (jB Y rfl rfl)<|cI true _ _ h (by exact⟨bR,bS,bT,bU,ar,rfl,rfl⟩)
        ·exact w Y (mP rfl)<|w Y (je Tryz.underlying37 rfl rfl)<|q (nB Y rfl rfl)<|cI (Option.isNone S) _ _ h (by exact⟨bR,bS,bT,bU,ar,rfl,rfl⟩)
     ·intro fi cG h
      refine J h (λx h=>?_) λx h=>?_
      ·exact o x<|o x<|o x<|o x<|q (jB x rfl rfl)<|cG true _ _ h (by exact⟨bO,bP,aV,bQ,aq,rfl⟩)
      ·exact w x (mP aq)<|y h λeM dl h=>w x (A eY aV dl)<|k1 x (cb h) (cu h) rfl λdT ev h=>w x (eP rfl rfl)<|q (nB x rfl rfl)<|cG (dT != 0) _ _ h (by exact⟨bO,bP,aV,bQ,aq,rfl⟩)
    ·intro fh cF h
     refine J h (λU h=>?_) λU h=>?_
     ·exact o U<|o U<|q (jB U rfl rfl)<|cF true _ _ h (by exact⟨bJ,bK,bL,bN,ap,rfl⟩)
     ·exact w U (mP ap)<|w U (je Tryz.underlying31 rfl rfl)<|q (nB U rfl rfl)<|cF (Option.isNone G) _ _ h (by exact⟨bJ,bK,bL,bN,ap,rfl⟩)
   ·intro fg cE h
    refine J h (λT h=>?_) λT h=>?_
    ·exact o T<|o T<|q (jB T rfl rfl)<|cE true _ _ h (by exact⟨cA,cB,rfl,rfl,rfl,rfl⟩)
    ·exact w T (mI rfl)<|w T (eP rfl rfl)<|q (nB T rfl rfl)<|cE (d5 != 0) _ _ h (by exact⟨cA,cB,rfl,rfl,rfl,rfl⟩)
 ·intro j3 dm h
  refine J h (λac h=>?_) λac h=>?_
  ·exact o ac<|o ac<|o ac<|q (jB ac rfl rfl)<|dm true _ _ h (by exact⟨rfl,rfl,rfl,rfl⟩)
  ·exact w ac (mS rfl)<|w ac (ju Tryz.underlying23 rfl (qo rfl))<|w ac (pM rfl rfl)<|q (nB ac rfl rfl)<|dm (decide (100<(p2.len:Int))) _ _ h (by exact⟨rfl,rfl,rfl,rfl⟩)
 ,cP Tryz.func3 rfl rfl⟩
end
end Go.Proofs.YtbijlklgbfminaaGreat
