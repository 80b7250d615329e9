import Derived.Test.YtbijlklgbfminaaGreatA19
set_option linter.unusedVariables false
set_option linter.unusedSimpArgs false
namespace Go.Proofs.YtbijlklgbfminaaGreat
section
open Go Go.Kx Go.Proofs Go.Kx.Au Go.Kx.W
set_option maxRecDepth 20000
set_option maxHeartbeats 2000000
instance Po {p0 p1 H Q}:aj Tryz.prog 264 (su p0 p1 H Q) [.pointer p0,.agg ([VI p1.1,VI p1.2.1,VI p1.2.2.1,VI p1.2.2.2.1,VI p1.2.2.2.2]:List Value).toArray] H (λv H'=>∃ a b c,v= .tuple #[.agg ([VI a.1,VI a.2.1,VI a.2.2.1,Sl.v a.2.2.2.1,Sl.v a.2.2.2.2]:List Value).toArray,.agg ([VI b.1,VI b.2.1,VI b.2.2.1,VI b.2.2.2.1,VI b.2.2.2.2]:List Value).toArray,.bool c]/\Q a b c H'):=aT (su.eq_1 ..) Tryz.func264 Tryz.ntmps264
end
end Go.Proofs.YtbijlklgbfminaaGreat
