import Derived.Test.YtigjebgjphmkoaaGreatA08
import Derived.Test.YtigjebgjphmkoaaGreatA12
set_option linter.unusedVariables false
set_option linter.unusedSimpArgs false
namespace Go.Proofs.YtigjebgjphmkoaaGreat
open Tryz
section
open Go Go.Kx Go.Proofs Go.Kx.Au Go.Kx.W
set_option maxRecDepth 20000
set_option maxHeartbeats 20000000
theorem kS {γ:Type} (c0:Addr) (Y:List Value->γ->PH->(Nat->γ->PH->Prop)->Prop) (g:γ) (H:PH) (Q:Nat->γ->PH->Prop) (h:pW c0 Y g H Q):
 iX prog (.func (.func 223) #[] #[.pointer (some c0)]) Y g H Q:=by
 unfold pW at h
 refine lu (fi:=[]) (ca:=[.pointer (some c0)]) WD func223 rfl ntmps223 (Nat.le_of_ble_eq_true rfl) λO Tk hd L =>?_
 generalize F:Value.func (.yield O) #[] #[]=S
 intro D M m hB e
 refine R<|y h λx1 E h=>q (a de rfl E)<|c1 (cb h) (cu h) rfl λP H3 h=>q (mI rfl)<|z<|b<|si (g:=(0,g)) (λs5=>s5.2) (λG (s5:Int×(Nat×γ))=>G 0=S/\G 1= .pointer (some c0)/\G 5=VI P/\G 6=VI s5.1) m hB e h ⟨rfl,rfl,rfl,rfl⟩ rfl<|?_
 clear h
 intro G s5 H8 A I h i
 obtain⟨j,k,l,c⟩:=I
 intro D M m hB e
 refine R<|q (xE c l)<|z<|s<|J h (λo h=>?_) λo h=>?_
 ·refine C o rfl<|K<|s<|b<|R<|q (mI c)<|q (aI rfl)<|z<|R<|q (mu j)<|q (mI rfl)<|y h λZ v h=>q (a de k v)<|y h λU t h=>q (n t rfl)<|q (f qK rfl)<|y h λaa w h=>q (a de rfl w)<|q (mI rfl)<|y h λV u h=>q (xF Ax u rfl rfl)<|y h λab x h=>q (a de rfl x)<|od<|oh (q:=s5.2) L e (Eq.trans rfl F.symm) rfl h λp T h=>q (qj rfl)<|z<|J h (λd h=>?_) λd h=>?_
  ·exact C d rfl<|Go.qo (g:=p) m hB e ⟨.inl rfl,_,(il results223),h⟩
  ·exact N d rfl<|K<|B<|r<|q (sO c rfl)<|q (mI rfl)<|z<|i (IntKind.wrap .i64 (s5.1+1),p) _ _ h (by exact⟨j,k,l,rfl⟩) _ _ m hB e
 ·exact N o rfl<|X rfl<|Go.vv (g:=s5.2) m hB e ⟨.inr rfl,_,(il results223),h⟩
instance Mv {p0 H Q}:ae prog 138 (jZ p0 H Q) [.pointer p0] H (λv H'=>∃ r0,v=r0/\Q r0 H'):=aR (jZ.eq_1 ..) func138 ntmps138
instance Mw {p0 p1 H Q}:ae prog 140 (gL p0 p1 H Q) [.pointer p0,VI p1] H (λv H'=>∃ r0 r1,v= .tuple #[VI r0,.bool r1]/\Q r0 r1 H'):=aR (gL.eq_1 ..) func140 ntmps140
instance Mx {p0 p1 p2 H Q}:ae prog 227 (iN p0 p1 p2 H Q) [.pointer p0,VI p1,VI p2] H (λv H'=>∃ r0,v= .bool r0/\Q r0 H'):=aR (iN.eq_1 ..) func227 ntmps227
instance ZL {p0 p1 p2 H Q}:ae prog 144 (qc p0 p1 p2 H Q) [.pointer p0,VI p1,VI p2] H (λv H'=>∃ r0,v=VI r0/\Q r0 H'):=aR (qc.eq_1 ..) func144 ntmps144
instance OK {p0 H Q}:ae prog 90 (l9 p0 H Q) [.pointer p0] H (λv H'=>∃ r0,v=Sl.v r0/\Q r0 H'):=rR (l9.eq_1 ..) func90 ntmps90
instance My {p0 H Q}:ae prog 254 (ja p0 H Q) [.pointer p0] H (λv H'=>v= .tuple #[]/\Q H'):=aR (ja.eq_1 ..) func254 ntmps254
instance Se {p0 p1 p2 H Q}:ae prog 272 (ou p0 p1 p2 H Q) [.pointer p0,VI p1,VI p2] H (λv H'=>∃ r0,v= .bool r0/\Q r0 H'):=aR (ou.eq_1 ..) func272 ntmps272
instance Sf {p0 p1 p2 p3 H Q}:ae prog 221 (sQ p0 p1 p2 p3 H Q) [.pointer p0,.bool p1,VI p2,VI p3] H (λv H'=>∃ r0 r1,v= .tuple #[VI r0,.bool r1]/\Q r0 r1 H'):=aR (sQ.eq_1 ..) func221 ntmps221
instance Pg {p0 p1 p2 H Q}:ae prog 284 (pn p0 p1 p2 H Q) [.pointer p0,VI p1,VI p2] H (λv H'=>∃ r0 r1,v= .tuple #[VI r0,.bool r1]/\Q r0 r1 H'):=aR (pn.eq_1 ..) func284 ntmps284
instance Qc {p0 p1 p2 p3 H Q}:ae prog 222 (qw p0 p1 p2 p3 H Q) [.pointer p0,.bool p1,VI p2,VI p3] H (λv H'=>∃ r0 r1,v= .tuple #[Sl.v r0,.bool r1]/\Q r0 r1 H'):=aR (qw.eq_1 ..) func222 ntmps222
instance Qd {p0 p1 p2 H Q}:ae prog 285 (nt p0 p1 p2 H Q) [.pointer p0,VI p1,VI p2] H (λv H'=>∃ r0 r1,v= .tuple #[Sl.v r0,.bool r1]/\Q r0 r1 H'):=aR (nt.eq_1 ..) func285 ntmps285
instance OL {p0 H Q}:ae prog 286 (mA p0 H Q) [.pointer p0] H (λv H'=>∃ r0,v=Sl.v r0/\Q r0 H'):=rR (mA.eq_1 ..) func286 ntmps286
instance Sg {p0 p1 H Q}:ae prog 267 (iP p0 p1 H Q) [.pointer p0,VI p1] H (λv H'=>∃ r0,v= .bool r0/\Q r0 H'):=aR (iP.eq_1 ..) func267 ntmps267
instance Qe {p0 p1 H Q}:ae prog 300 (lN p0 p1 H Q) [.pointer p0,VI p1] H (λv H'=>∃ r0,v= .bool r0/\Q r0 H'):=aR (lN.eq_1 ..) func300 ntmps300
instance Ph {p0 p1 p2 H Q}:ae prog 255 (kc p0 p1 p2 H Q) [.pointer p0,.agg (dG p1).toArray,VI p2] H (λv H'=>v= .tuple #[]/\Q H'):=aR (kc.eq_1 ..) func255 ntmps255
instance Pj {p0 p1 p2 H Q}:ae prog 256 (ke p0 p1 p2 H Q) [.pointer p0,VI p1,VI p2] H (λv H'=>v= .tuple #[]/\Q H'):=aR (ke.eq_1 ..) func256 ntmps256
instance Qf {p0 p1 H Q}:ae prog 258 (lO p0 p1 H Q) [.pointer p0,VI p1] H (λv H'=>v= .tuple #[]/\Q H'):=aR (lO.eq_1 ..) func258 ntmps258
instance Sh {p0 H Q}:ae prog 259 (sR p0 H Q) [.pointer p0] H (λv H'=>∃ r0,v= .agg (ag r0).toArray/\Q r0 H'):=aR (sR.eq_1 ..) func259 ntmps259
instance Si {p0 H Q}:ae prog 260 (sS p0 H Q) [.pointer p0] H (λv H'=>∃ r0,v=VI r0/\Q r0 H'):=aR (sS.eq_1 ..) func260 ntmps260
instance VS {p0 p1 H Q}:ae prog 275 (km p0 p1 H Q) [VI p0,VI p1] H (λv H'=>∃ r0,v=VI r0/\Q r0 H'):=aR (km.eq_1 ..) func275 ntmps275
end
end Go.Proofs.YtigjebgjphmkoaaGreat
