import Derived.Test.YtbijlklgbfminaaGreatA08
set_option linter.unusedVariables false
set_option linter.unusedSimpArgs false
namespace Go.Proofs.YtbijlklgbfminaaGreat
section
open Go Go.Kx Go.Proofs Go.Kx.Au Go.Kx.W
set_option maxRecDepth 20000
set_option maxHeartbeats 2000000
instance Ra {p0 p1 H Q}:aj Tryz.prog 174 (gx p0 p1 H Q) [Sl.v p0,Sl.v p1] H (λv H'=>∃ a,v= .bool a/\Q a H'):=aT (gx.eq_1 ..) Tryz.func174 Tryz.ntmps174
instance SN {p0 p1 H Q}:aj Tryz.prog 257 (Ct p0 p1 H Q) [.int .u32 p0,.int .u32 p1] H (λv H'=>∃ a b,v= .tuple #[.int .u32 a,.int .u32 b]/\Q a b H'):=aT (Ct.eq_1 ..) Tryz.func257 Tryz.ntmps257
instance SO {p0 p1 H Q}:aj Tryz.prog 258 (vt p0 p1 H Q) [.int .u64 p0,.int .u64 p1] H (λv H'=>∃ a b,v= .tuple #[.int .u64 a,.int .u64 b]/\Q a b H'):=aT (vt.eq_1 ..) Tryz.func258 Tryz.ntmps258
instance Tw {p0 p1 H Q}:aj Tryz.prog 198 (wm p0 p1 H Q) [.int .u64 p0,.int .u64 p1] H (λv H'=>∃ a b,v= .tuple #[.int .u64 a,.int .u64 b]/\Q a b H'):=aT (wm.eq_1 ..) Tryz.func198 Tryz.ntmps198
instance FI {p0 p1 H Q}:aj Tryz.prog 126 (fu p0 p1 H Q) [Sl.v p0,VI p1] H (λv H'=>∃ a,v=Sl.v a/\Q a H'):=aT (fu.eq_1 ..) Tryz.func126 Tryz.ntmps126
instance K0 {p0 p1 H Q}:aj Tryz.prog 189 (cV p0 p1 H Q) [.pointer p0,.bool p1] H (λv H'=>∃ a,v= .pointer a/\Q a H'):=aT (cV.eq_1 ..) Tryz.func189 Tryz.ntmps189
instance HK {p0 H Q}:aj Tryz.prog 297 (iy p0 H Q) [.pointer p0] H (λv H'=>∃ a,v=VI a/\Q a H'):=aT (iy.eq_1 ..) Tryz.func297 Tryz.ntmps297
instance Jl {p0 p1 H Q}:aj Tryz.prog 261 (kY p0 p1 H Q) [.pointer p0,VI p1] H (λv H'=>∃ a,v=Sl.v a/\Q a H'):=aT (kY.eq_1 ..) Tryz.func261 Tryz.ntmps261
instance Fp {p0 H Q}:aj Tryz.prog 156 (c6 p0 H Q) [Sl.v p0] H (λv H'=>∃ a,v=Sl.v a/\Q a H'):=aT (c6.eq_1 ..) Tryz.func156 Tryz.ntmps156
instance HW {p0 p1 H Q}:aj Tryz.prog 202 (hG p0 p1 H Q) [.pointer p0,VI p1] H (λv H'=>∃ a,v=Sl.v a/\Q a H'):=aT (hG.eq_1 ..) Tryz.func202 Tryz.ntmps202
instance HX {p0 p1 p2 H Q}:aj Tryz.prog 205 (hZ p0 p1 p2 H Q) [.pointer p0,VI p1,Sl.v p2] H (λv H'=>∃ a,v= .bool a/\Q a H'):=aT (hZ.eq_1 ..) Tryz.func205 Tryz.ntmps205
instance Tx {p0 p1 p2 H Q}:aj Tryz.prog 207 (zI p0 p1 p2 H Q) [.pointer p0,.pointer p1,.agg ([VI p2.1,VI p2.2.1,VI p2.2.2.1,VI p2.2.2.2.1,VI p2.2.2.2.2]:List Value).toArray] H (λv H'=>∃ a,v= .pointer a/\Q a H'):=aT (zI.eq_1 ..) Tryz.func207 Tryz.ntmps207
instance FJ {p0 p1 H Q}:aj Tryz.prog 329 (iD p0 p1 H Q) [Sl.v p0,VI p1] H (λv H'=>∃ a,v=Sl.v a/\Q a H'):=aT (iD.eq_1 ..) Tryz.func329 Tryz.ntmps329
instance ET {p0 H Q}:aj Tryz.prog 320 (jI p0 H Q) [Sl.v p0] H (λv H'=>∃ a,v=Sl.v a/\Q a H'):=aT (jI.eq_1 ..) Tryz.func320 Tryz.ntmps320
instance PZ {p0 H Q}:aj Tryz.prog 210 (qE p0 H Q) [.pointer p0] H (λv H'=>∃ a,v= .agg ([VI a.1,VI a.2.1,VI a.2.2.1,VI a.2.2.2.1,VI a.2.2.2.2]:List Value).toArray/\Q a H'):=aT (qE.eq_1 ..) Tryz.func210 Tryz.ntmps210
instance IW {p0 H Q}:aj Tryz.prog 250 (iL p0 H Q) [.pointer p0] H (λv H'=>∃ a,v=VI a/\Q a H'):=aT (iL.eq_1 ..) Tryz.func250 Tryz.ntmps250
theorem jY {γ:Type} (c0:Addr) (Y:List Value->γ->PH->(Nat->γ->PH->Prop)->Prop) (g:γ) (H:PH) (Q:Nat->γ->PH->Prop) (h:nw c0 Y g H Q):
 iH Tryz.prog (.func (.func 254) #[] #[.pointer (some c0)]) Y g H Q:=by
 unfold nw at h
 refine kX (fi:=[]) (ca:=[.pointer (some c0)]) QV Tryz.func254 rfl Tryz.ntmps254 (Nat.le_of_ble_eq_true rfl) λP Tk hd O =>?_
 generalize G:Value.func (.yield P) #[] #[]=T
 intro D M o m e
 refine R<|y h λx1 F h=>q (a aR rfl F)<|c1 (cb h) (cu h) rfl λS H3 h=>q (mI rfl)<|z<|b<|qu (g:=(0,g)) (λs5=>s5.2) (λI (s5:Int×(Nat×γ))=>I 0=T/\I 1= .pointer (some c0)/\I 5=VI S/\I 6=VI s5.1) o m e h ⟨rfl,rfl,rfl,rfl⟩ rfl<|?_
 clear h
 intro I s5 H8 E L h i
 obtain⟨j,k,l,c⟩:=L
 intro D M o m e
 refine R<|q (jO c l)<|z<|s<|J h (λp h=>?_) λp h=>?_
 ·refine C p rfl<|K<|s<|b<|R<|q (mI c)<|q (aI rfl)<|z<|R<|q (lI j)<|q (mI rfl)<|y h λaa w h=>q (a aR k w)<|y h λV u h=>q (n u rfl)<|q (f bB rfl)<|y h λab x h=>q (a aR rfl x)<|q (mI rfl)<|y h λZ v h=>q (kj dB v rfl rfl)<|y h λac A h=>q (a aR rfl A)<|od<|nD (q:=s5.2) O e (Eq.trans rfl G.symm) rfl h λt U h=>q (jH rfl)<|z<|J h (λd h=>?_) λd h=>?_
  ·exact C d rfl<|Go.fP (g:=t) o m e ⟨.inl rfl,_,(iC Tryz.results254),h⟩
  ·exact N d rfl<|K<|B<|r<|q (de c rfl)<|q (mI rfl)<|z<|i (IntKind.wrap .i64 (s5.1+1),t) _ _ h (by exact⟨j,k,l,rfl⟩) _ _ o m e
 ·exact N p rfl<|X rfl<|Go.gP (g:=s5.2) o m e ⟨.inr rfl,_,(iC Tryz.results254),h⟩
instance IX {p0 H Q}:aj Tryz.prog 190 (iM p0 H Q) [.pointer p0] H (λv H'=>∃ a,v=a/\Q a H'):=aT (iM.eq_1 ..) Tryz.func190 Tryz.ntmps190
instance IY {p0 p1 H Q}:aj Tryz.prog 192 (fV p0 p1 H Q) [.pointer p0,VI p1] H (λv H'=>∃ a b,v= .tuple #[VI a,.bool b]/\Q a b H'):=aT (fV.eq_1 ..) Tryz.func192 Tryz.ntmps192
instance Ia {p0 p1 p2 H Q}:aj Tryz.prog 269 (gM p0 p1 p2 H Q) [.pointer p0,VI p1,VI p2] H (λv H'=>∃ a,v= .bool a/\Q a H'):=aT (gM.eq_1 ..) Tryz.func269 Tryz.ntmps269
instance Jm {p0 H Q}:aj Tryz.prog 181 (gk p0 H Q) [.pointer p0] H (λv H'=>∃ a,v=VI a/\Q a H'):=aT (gk.eq_1 ..) Tryz.func181 Tryz.ntmps181
instance NS {p0 p1 p2 H Q}:aj Tryz.prog 270 (qc p0 p1 p2 H Q) [.pointer p0,VI p1,VI p2] H (λv H'=>∃ a,v= .bool a/\Q a H'):=aT (qc.eq_1 ..) Tryz.func270 Tryz.ntmps270
instance NT {p0 H Q}:aj Tryz.prog 151 (qe p0 H Q) [.pointer p0] H (λv H'=>∃ a,v= .agg ([VI a.1,VI a.2.1,VI a.2.2.1,VI a.2.2.2.1,VI a.2.2.2.2]:List Value).toArray/\Q a H'):=aT (qe.eq_1 ..) Tryz.func151 Tryz.ntmps151
instance NU {p0 H Q}:aj Tryz.prog 152 (qf p0 H Q) [.pointer p0] H (λv H'=>∃ a,v=VI a/\Q a H'):=aT (qf.eq_1 ..) Tryz.func152 Tryz.ntmps152
instance SP {p0 p1 p2 p3 p4 p5 a b H Q}:aj Tryz.prog 80 (vx p0 p1 p2 p3 p4 p5 a b H Q) [.pointer p0,.pointer p1,.pointer p2,.pointer p3,.pointer p4,VI p5,.agg ([VI a.1,VI a.2.1,VI a.2.2.1,VI a.2.2.2.1,VI a.2.2.2.2.1,VI a.2.2.2.2.2.1,VI a.2.2.2.2.2.2.1,VI a.2.2.2.2.2.2.2.1,VI a.2.2.2.2.2.2.2.2.1,VI a.2.2.2.2.2.2.2.2.2.1,VI a.2.2.2.2.2.2.2.2.2.2.1,Sl.v a.2.2.2.2.2.2.2.2.2.2.2.1,Sl.v a.2.2.2.2.2.2.2.2.2.2.2.2.1,Sl.v a.2.2.2.2.2.2.2.2.2.2.2.2.2]:List Value).toArray,.agg ([VI b.1,VI b.2.1,VI b.2.2.1,VI b.2.2.2.1,VI b.2.2.2.2.1,VI b.2.2.2.2.2.1,VI b.2.2.2.2.2.2.1,VI b.2.2.2.2.2.2.2.1,VI b.2.2.2.2.2.2.2.2.1,VI b.2.2.2.2.2.2.2.2.2]:List Value).toArray] H (λv H'=>∃ c,v= .pointer c/\Q c H'):=aT (vx.eq_1 ..) Tryz.func80 Tryz.ntmps80
instance K1 {p0 p1 H Q}:aj Tryz.prog 81 (oF p0 p1 H Q) [VI p0,VI p1] H (λv H'=>∃ a,v= .pointer a/\Q a H'):=aT (oF.eq_1 ..) Tryz.func81 Tryz.ntmps81
instance HL {p0 H Q}:aj Tryz.prog 17 (fh p0 H Q) [.pointer p0] H (λv H'=>∃ a,v= .pointer a/\Q a H'):=aT (fh.eq_1 ..) Tryz.func17 Tryz.ntmps17
instance Jn {p0 H Q}:aj Tryz.prog 27 (nH p0 H Q) [.pointer p0] H (λv H'=>∃ a,v= .pointer a/\Q a H'):=aT (nH.eq_1 ..) Tryz.func27 Tryz.ntmps27
instance K2 {p0 H Q}:aj Tryz.prog 31 (jj p0 H Q) [.pointer p0] H (λv H'=>∃ a,v= .pointer a/\Q a H'):=aT (jj.eq_1 ..) Tryz.func31 Tryz.ntmps31
instance SQ {p0 H Q}:aj Tryz.prog 94 (v9 p0 H Q) [.agg ([VI p0.1,VI p0.2.1,VI p0.2.2.1,VI p0.2.2.2.1,VI p0.2.2.2.2.1,VI p0.2.2.2.2.2.1,VI p0.2.2.2.2.2.2.1,Sl.v p0.2.2.2.2.2.2.2]:List Value).toArray] H (λv H'=>∃ a,v= .agg ([VI a.1,VI a.2.1,VI a.2.2.1,VI a.2.2.2.1,VI a.2.2.2.2.1,VI a.2.2.2.2.2.1,VI a.2.2.2.2.2.2.1,Sl.v a.2.2.2.2.2.2.2]:List Value).toArray/\Q a H'):=aT (v9.eq_1 ..) Tryz.func94 Tryz.ntmps94
instance Qh {p0 p1 p2 H Q}:aj Tryz.prog 95 (dH p0 p1 p2 H Q) [VI p0,VI p1,VI p2] H (λv H'=>∃ a,v= .bool a/\Q a H'):=aT (dH.eq_1 ..) Tryz.func95 Tryz.ntmps95
instance SR {p0 p1 H Q}:aj Tryz.prog 96 (rk p0 p1 H Q) [.agg ([VI p0.1,VI p0.2.1,VI p0.2.2.1,VI p0.2.2.2.1,VI p0.2.2.2.2.1,VI p0.2.2.2.2.2.1,VI p0.2.2.2.2.2.2.1,Sl.v p0.2.2.2.2.2.2.2]:List Value).toArray,.agg ([VI p1.1,VI p1.2.1,VI p1.2.2.1,VI p1.2.2.2.1,VI p1.2.2.2.2.1,VI p1.2.2.2.2.2.1,VI p1.2.2.2.2.2.2.1,Sl.v p1.2.2.2.2.2.2.2]:List Value).toArray] H (λv H'=>∃ a,v= .bool a/\Q a H'):=aT (rk.eq_1 ..) Tryz.func96 Tryz.ntmps96
end
end Go.Proofs.YtbijlklgbfminaaGreat
