import Derived.Test.YtbijlklgbfminaaGreatA22
set_option linter.unusedVariables false
set_option linter.unusedSimpArgs false
namespace Go.Proofs.YtbijlklgbfminaaGreat
section
open Go Go.Kx Go.Proofs Go.Kx.Au Go.Kx.W
set_option maxRecDepth 20000
set_option maxHeartbeats 2000000
instance Fs {p0 p1 H Q}:aj Tryz.prog 82 (eN p0 p1 H Q) [.pointer p0,.agg ([VI p1.1,VI p1.2.1,VI p1.2.2.1,VI p1.2.2.2.1,Sl.v p1.2.2.2.2]:List Value).toArray] H (λv H'=>∃ a b,v= .tuple #[.agg ([VI a.1,VI a.2]:List Value).toArray,.bool b]/\Q a b H'):=aT (eN.eq_1 ..) Tryz.func82 Tryz.ntmps82
instance Ft {p0 H Q}:aj Tryz.prog 167 (iR p0 H Q) [.pointer p0] H (λv H'=>∃ a b,v= .tuple #[Sl.v a,VI b]/\Q a b H'):=aT (iR.eq_1 ..) Tryz.func167 Tryz.ntmps167
instance Ro {p0 H Q}:aj Tryz.prog 168 (yI p0 H Q) [.pointer p0] H (λv H'=>∃ a b,v= .tuple #[VI a,VI b]/\Q a b H'):=aT (yI.eq_1 ..) Tryz.func168 Tryz.ntmps168
instance LI {p0 H Q}:aj Tryz.prog 86 (lL p0 H Q) [.pointer p0] H (λv H'=>∃ a b,v= .tuple #[VI a,VI b]/\Q a b H'):=aT (lL.eq_1 ..) Tryz.func86 Tryz.ntmps86
instance LJ {p0 p1 p2 H Q}:aj Tryz.prog 169 (oN p0 p1 p2 H Q) [.pointer p0,VI p1,VI p2] H (λv H'=>∃ a,v=VI a/\Q a H'):=aT (oN.eq_1 ..) Tryz.func169 Tryz.ntmps169
instance Iv {p0 p1 H Q}:aj Tryz.prog 87 (kB p0 p1 H Q) [.pointer p0,VI p1] H (λv H'=>∃ a,v=VI a/\Q a H'):=aT (kB.eq_1 ..) Tryz.func87 Tryz.ntmps87
instance HQ {p0 p1 H Q}:aj Tryz.prog 93 (kq p0 p1 H Q) [.pointer p0,.agg ([VI p1.1,VI p1.2.1,VI p1.2.2.1,VI p1.2.2.2.1,Sl.v p1.2.2.2.2]:List Value).toArray] H (λv H'=>∃ a,v= .agg ([VI a.1,VI a.2]:List Value).toArray/\Q a H'):=aT (kq.eq_1 ..) Tryz.func93 Tryz.ntmps93
instance J4 {p0 p1 H Q}:aj Tryz.prog 38 (kf p0 p1 H Q) [.pointer p0,.agg ([VI p1.1,VI p1.2.1,VI p1.2.2.1,VI p1.2.2.2.1,Sl.v p1.2.2.2.2]:List Value).toArray] H (λv H'=>∃ a,v= .agg ([VI a.1,VI a.2]:List Value).toArray/\Q a H'):=aT (kf.eq_1 ..) Tryz.func38 Tryz.ntmps38
instance Iw {p0 p1 H Q}:aj Tryz.prog 13 (iO p0 p1 H Q) [.pointer p0,Sl.v p1] H (λv H'=>∃ a,v=Sl.v a/\Q a H'):=aT (iO.eq_1 ..) Tryz.func13 Tryz.ntmps13
instance LK {p0 p1 H Q}:aj Tryz.prog 114 (sJ p0 p1 H Q) [.pointer p0,VI p1] H (λv H'=>∃ a b,v= .tuple #[Sl.v a,VI b]/\Q a b H'):=aT (sJ.eq_1 ..) Tryz.func114 Tryz.ntmps114
instance L8 {p0 p1 H Q}:aj Tryz.prog 53 (pd p0 p1 H Q) [.pointer p0,VI p1] H (λv H'=>∃ a b,v= .tuple #[Sl.v a,VI b]/\Q a b H'):=aT (pd.eq_1 ..) Tryz.func53 Tryz.ntmps53
instance L9 {p0 p1 H Q}:aj Tryz.prog 23 (pe p0 p1 H Q) [.pointer p0,VI p1] H (λv H'=>∃ a b,v= .tuple #[Sl.v a,VI b]/\Q a b H'):=aT (pe.eq_1 ..) Tryz.func23 Tryz.ntmps23
end
end Go.Proofs.YtbijlklgbfminaaGreat
