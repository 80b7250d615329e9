/- turned from PagB by pagv.py. -/
import Derived.Test.YtmbfefbgjdpelaaImgA
set_option linter.unusedVariables false
set_option linter.unusedSimpArgs false
namespace Go.Proofs.Ytmbfefbgjdpelaa
open Go Go.Kx PInt

theorem ints_enc (x : Int) : cellV (Value.int .i64 x) = true := rfl
section
variable {H B : PH} {L : List Ob} {a : Addr} {s t : Sl} {per : Int} {l : List Int} {d : List Bool}
end
end Go.Proofs.Ytmbfefbgjdpelaa
