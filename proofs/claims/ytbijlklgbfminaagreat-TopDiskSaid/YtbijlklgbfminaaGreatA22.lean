import Derived.Test.YtbijlklgbfminaaGreatA21
set_option linter.unusedVariables false
set_option linter.unusedSimpArgs false
namespace Go.Proofs.YtbijlklgbfminaaGreat
section
open Go Go.Kx Go.Proofs Go.Kx.Au Go.Kx.W
set_option maxRecDepth 20000
set_option maxHeartbeats 2000000
instance LF {p0 p1 p2 p3 H Q}:aj Tryz.prog 248 (lJ p0 p1 p2 p3 H Q) [.pointer p0,.agg ([VI p1.1,VI p1.2.1,VI p1.2.2.1,VI p1.2.2.2]:List Value).toArray,Sl.v p2,.bool p3] H (λv H'=>∃ a b,v= .tuple #[VI a,VI b]/\Q a b H'):=aT (lJ.eq_1 ..) Tryz.func248 Tryz.ntmps248
instance L5 {p0 p1 p2 H Q}:aj Tryz.prog 247 (kO p0 p1 p2 H Q) [.pointer p0,VI p1,Sl.v p2] H (λv H'=>v= .tuple #[]/\Q H'):=aT (kO.eq_1 ..) Tryz.func247 Tryz.ntmps247
instance LG {p0 p1 p2 H Q}:aj Tryz.prog 251 (oI p0 p1 p2 H Q) [.pointer p0,VI p1,Sl.v p2] H (λv H'=>∃ a,v=VI a/\Q a H'):=aT (oI.eq_1 ..) Tryz.func251 Tryz.ntmps251
instance LH {p0 H Q}:aj Tryz.prog 249 (oJ p0 H Q) [.pointer p0] H (λv H'=>∃ a,v=VI a/\Q a H'):=aT (oJ.eq_1 ..) Tryz.func249 Tryz.ntmps249
instance L6 {p0 p1 H Q}:aj Tryz.prog 253 (pZ p0 p1 H Q) [.pointer p0,VI p1] H (λv H'=>∃ a,v=VI a/\Q a H'):=aT (pZ.eq_1 ..) Tryz.func253 Tryz.ntmps253
instance HZ {p0 p1 H Q}:aj Tryz.prog 186 (la p0 p1 H Q) [.pointer p0,.agg ([VI p1.1,VI p1.2.1,VI p1.2.2.1,VI p1.2.2.2.1,Sl.v p1.2.2.2.2]:List Value).toArray] H (λv H'=>∃ a,v=VI a/\Q a H'):=aT (la.eq_1 ..) Tryz.func186 Tryz.ntmps186
instance Fq {p0 H Q}:aj Tryz.prog 107 (iQ p0 H Q) [.pointer p0] H (λv H'=>∃ a b,v= .tuple #[Sl.v a,VI b]/\Q a b H'):=aT (iQ.eq_1 ..) Tryz.func107 Tryz.ntmps107
instance J2 {p0 H Q}:aj Tryz.prog 106 (nM p0 H Q) [.pointer p0] H (λv H'=>∃ a b,v= .tuple #[Sl.v a,VI b]/\Q a b H'):=aT (nM.eq_1 ..) Tryz.func106 Tryz.ntmps106
instance Ha {p0 p1 H Q}:aj Tryz.prog 47 (jV p0 p1 H Q) [.pointer p0,Sl.v p1] H (λv H'=>∃ a b,v= .tuple #[Sl.v a,VI b]/\Q a b H'):=aT (jV.eq_1 ..) Tryz.func47 Tryz.ntmps47
instance L7 {p0 p1 H Q}:aj Tryz.prog 16 (mR p0 p1 H Q) [.pointer p0,Sl.v p1] H (λv H'=>∃ a b,v= .tuple #[Sl.v a,VI b]/\Q a b H'):=aT (mR.eq_1 ..) Tryz.func16 Tryz.ntmps16
instance J3 {p0 H Q}:aj Tryz.prog 18 (fL p0 H Q) [.pointer p0] H (λv H'=>∃ a,v= .agg ([VI a.1,VI a.2.1,VI a.2.2.1,VI a.2.2.2.1,VI a.2.2.2.2.1,VI a.2.2.2.2.2.1,VI a.2.2.2.2.2.2.1,VI a.2.2.2.2.2.2.2.1,VI a.2.2.2.2.2.2.2.2.1,VI a.2.2.2.2.2.2.2.2.2]:List Value).toArray/\Q a H'):=aT (fL.eq_1 ..) Tryz.func18 Tryz.ntmps18
instance Hb {p0 p1 H Q}:aj Tryz.prog 163 (ld p0 p1 H Q) [.pointer p0,VI p1] H (λv H'=>∃ a,v= .agg ([VI a.1,VI a.2]:List Value).toArray/\Q a H'):=aT (ld.eq_1 ..) Tryz.func163 Tryz.ntmps163
instance Iu {p0 p1 H Q}:aj Tryz.prog 164 (mn p0 p1 H Q) [.pointer p0,VI p1] H (λv H'=>∃ a,v= .agg ([VI a.1,VI a.2]:List Value).toArray/\Q a H'):=aT (mn.eq_1 ..) Tryz.func164 Tryz.ntmps164
end
end Go.Proofs.YtbijlklgbfminaaGreat
