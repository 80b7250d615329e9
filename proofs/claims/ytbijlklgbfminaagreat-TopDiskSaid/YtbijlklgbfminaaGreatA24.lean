import Derived.Test.YtbijlklgbfminaaGreatA23
set_option linter.unusedVariables false
set_option linter.unusedSimpArgs false
namespace Go.Proofs.YtbijlklgbfminaaGreat
section
open Go Go.Kx Go.Proofs Go.Kx.Au Go.Kx.W
set_option maxRecDepth 20000
set_option maxHeartbeats 2000000
instance MA {H Q}:aj Tryz.prog 4 (mW H Q) [] H (λv H'=>∃ a,v= .bool a/\Q a H'):=aT (mW.eq_1 ..) Tryz.func4 Tryz.ntmps4
end
end Go.Proofs.YtbijlklgbfminaaGreat
