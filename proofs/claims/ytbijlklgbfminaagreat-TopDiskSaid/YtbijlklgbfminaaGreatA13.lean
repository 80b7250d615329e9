import Derived.Test.YtbijlklgbfminaaGreatA12
set_option linter.unusedVariables false
set_option linter.unusedSimpArgs false
namespace Go.Proofs.YtbijlklgbfminaaGreat
section
open Go Go.Kx Go.Proofs Go.Kx.Au Go.Kx.W
set_option maxRecDepth 20000
set_option maxHeartbeats 2000000
instance Qi {p0 H Q}:aj Tryz.prog 65 (mG p0 H Q) [.agg ([VI p0.1,VI p0.2.1,VI p0.2.2.1,VI p0.2.2.2.1,VI p0.2.2.2.2]:List Value).toArray] H (λv H'=>∃ a b,v= .tuple #[Sl.v a,VI b]/\Q a b H'):=aT (mG.eq_1 ..) Tryz.func65 Tryz.ntmps65
instance Qj {p0 H Q}:aj Tryz.prog 118 (qx p0 H Q) [Sl.v p0] H (λv H'=>∃ a b,v= .tuple #[.agg ([VI a.1,VI a.2.1,VI a.2.2.1,VI a.2.2.2.1,VI a.2.2.2.2]:List Value).toArray,VI b]/\Q a b H'):=aT (qx.eq_1 ..) Tryz.func118 Tryz.ntmps118
instance Qk {p0 p1 H Q}:aj Tryz.prog 64 (qy p0 p1 H Q) [Sl.v p0,Sl.v p1] H (λv H'=>∃ a b c,v= .tuple #[.agg ([VI a.1,VI a.2.1,VI a.2.2.1,VI a.2.2.2.1,VI a.2.2.2.2]:List Value).toArray,VI b,VI c]/\Q a b c H'):=aT (qy.eq_1 ..) Tryz.func64 Tryz.ntmps64
instance SU {p0 p1 H Q}:aj Tryz.prog 120 (vp p0 p1 H Q) [.pointer p0,.agg ([VI p1.1,VI p1.2.1,VI p1.2.2.1,VI p1.2.2.2.1,VI p1.2.2.2.2.1,VI p1.2.2.2.2.2.1,VI p1.2.2.2.2.2.2.1,VI p1.2.2.2.2.2.2.2.1,VI p1.2.2.2.2.2.2.2.2.1,VI p1.2.2.2.2.2.2.2.2.2.1,VI p1.2.2.2.2.2.2.2.2.2.2.1,Sl.v p1.2.2.2.2.2.2.2.2.2.2.2.1,Sl.v p1.2.2.2.2.2.2.2.2.2.2.2.2.1,Sl.v p1.2.2.2.2.2.2.2.2.2.2.2.2.2]:List Value).toArray] H (λv H'=>∃ a,v= .bool a/\Q a H'):=aT (vp.eq_1 ..) Tryz.func120 Tryz.ntmps120
instance Pg {p0 p1 H Q}:aj Tryz.prog 66 (lD p0 p1 H Q) [.pointer p0,.agg ([VI p1.1,VI p1.2.1,VI p1.2.2.1,VI p1.2.2.2.1,VI p1.2.2.2.2.1,VI p1.2.2.2.2.2.1,VI p1.2.2.2.2.2.2.1,VI p1.2.2.2.2.2.2.2.1,VI p1.2.2.2.2.2.2.2.2.1,VI p1.2.2.2.2.2.2.2.2.2.1,VI p1.2.2.2.2.2.2.2.2.2.2.1,Sl.v p1.2.2.2.2.2.2.2.2.2.2.2.1,Sl.v p1.2.2.2.2.2.2.2.2.2.2.2.2.1,Sl.v p1.2.2.2.2.2.2.2.2.2.2.2.2.2]:List Value).toArray] H (λv H'=>∃ a b,v= .tuple #[Sl.v a,VI b]/\Q a b H'):=aT (lD.eq_1 ..) Tryz.func66 Tryz.ntmps66
instance Ik {p0 p1 H Q}:aj Tryz.prog 260 (jz p0 p1 H Q) [.agg ([.pointer p0]:List Value).toArray,VI p1] H (λv H'=>∃ a,v=Sl.v a/\Q a H'):=aT (jz.eq_1 ..) Tryz.func260 Tryz.ntmps260
end
end Go.Proofs.YtbijlklgbfminaaGreat
