import Derived.Test.YtbijlklgbfminaaGreatA13
set_option linter.unusedVariables false
set_option linter.unusedSimpArgs false
namespace Go.Proofs.YtbijlklgbfminaaGreat
section
open Go Go.Kx Go.Proofs Go.Kx.Au Go.Kx.W
set_option maxRecDepth 20000
set_option maxHeartbeats 2000000
instance Ph {p0 p1 H Q}:aj Tryz.prog 200 (qD p0 p1 H Q) [.pointer p0,Sl.v p1] H (λv H'=>∃ a b,v= .tuple #[.agg ([VI a.1,VI a.2.1,VI a.2.2.1,VI a.2.2.2.1,VI a.2.2.2.2.1,VI a.2.2.2.2.2.1,VI a.2.2.2.2.2.2.1,VI a.2.2.2.2.2.2.2.1,VI a.2.2.2.2.2.2.2.2.1,VI a.2.2.2.2.2.2.2.2.2.1,VI a.2.2.2.2.2.2.2.2.2.2.1,Sl.v a.2.2.2.2.2.2.2.2.2.2.2.1,Sl.v a.2.2.2.2.2.2.2.2.2.2.2.2.1,Sl.v a.2.2.2.2.2.2.2.2.2.2.2.2.2]:List Value).toArray,VI b]/\Q a b H'):=aT (qD.eq_1 ..) Tryz.func200 Tryz.ntmps200
end
end Go.Proofs.YtbijlklgbfminaaGreat
