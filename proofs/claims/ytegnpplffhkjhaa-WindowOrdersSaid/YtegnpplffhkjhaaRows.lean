/-
  No cell of these rows narrows 'for every input' (looked for: loops, veiled, ifaces, maps, wideKeys, modest, calm, conditions, laid).
  DERIVED. THE GIVEN ROWS OF THIS SEAT. 4 by the template 'for every input the law returns true; each argument reads behind the call as it read before'; 0 by the template 'total and deterministic' (their statements: YtegnpplffhkjhaaTotals.lean).
  GIVEN WITH THE SEED: the statements are not yours to turn. If you find one false, say at which input.
  Laid BY PROGRAM, IN A SANDBOX (cutbox-rows.mjs): the forced cells as the released guide's own fill.sh prints them over the translation bdd9fdb1dd406139… (all of the seat's roots in one cut). By AI agents, Wed Nov 11 2026. No macro, syntax, notation, axiom, sorry.
-/
import Derived.Test.YtegnpplffhkjhaaChecked
import GoSem.Claim
import GoSem.ClaimJoined
import GoSem.ClaimMapViews
import Derived.JoinedTies
import Derived.KernelRfl
namespace Go.Proofs.Ytegnpplffhkjhaa
/- THE CELL 'sum', in the pinned program and in every row, IS THE sha256 OF THE DUMP (.gsa) THAT YtegnpplffhkjhaaProg.lean LOADS. Nothing in Lean hashes anything: it is a label: what it is worth is what the hold of that sum in a sandbox is worth. -/
noncomputable def Try.pinned : Pinned := { name := "ytegnpplffhkjhaa", sum := "bdd9fdb1dd4061391f9120c2f7018d7e5d47df68dc3fe220632535c5b99231d4", checked := Try.checked }
namespace Rows
def none {H : Type} : Left H := { results := [], args := [] }

/-- 'keelsonlaw23.WindowOrders': WHATEVER THE INPUT: true; the input reads as it did. -/
def windowOrdersSpec : ChangeSpec := { name := "windowOrders", fn := fun _ => fun
  | [d1, d2] => { results := [.lit (.bool true)], args := [d1, d2] }
  | _ => none }
def windowOrdersRow : OpenClaim := { program := "ytegnpplffhkjhaa", sum := "bdd9fdb1dd4061391f9120c2f7018d7e5d47df68dc3fe220632535c5b99231d4", func := "keelson/keelsonlaw23.WindowOrders", spec := "windowOrders", unfollowed := true, recurses := true, apart := false }
def WindowOrdersSaid : Prop := windowOrdersRow.holds Try.pinned (OpenSpec.ofChange windowOrdersSpec)

/-- ITS FALSE NEIGHBOUR: 'it returns false'. Refute it at one input. -/
def windowOrdersWrong : ChangeSpec := { name := "windowOrders", fn := fun _ => fun
  | [d1, d2] => { results := [.lit (.bool false)], args := [d1, d2] }
  | _ => none }
def WindowOrdersWrongFalsely : Prop := windowOrdersRow.holds Try.pinned (OpenSpec.ofChange windowOrdersWrong)

/-- 'keelsonlaw23.WindowHolds': WHATEVER THE INPUT: true; the input reads as it did. -/
def windowHoldsSpec : ChangeSpec := { name := "windowHolds", fn := fun _ => fun
  | [d1, d2, d3, d4] => { results := [.lit (.bool true)], args := [d1, d2, d3, d4] }
  | _ => none }
def windowHoldsRow : OpenClaim := { program := "ytegnpplffhkjhaa", sum := "bdd9fdb1dd4061391f9120c2f7018d7e5d47df68dc3fe220632535c5b99231d4", func := "keelson/keelsonlaw23.WindowHolds", spec := "windowHolds", unfollowed := true, recurses := true, apart := false }
def WindowHoldsSaid : Prop := windowHoldsRow.holds Try.pinned (OpenSpec.ofChange windowHoldsSpec)

/-- ITS FALSE NEIGHBOUR: 'it returns false'. Refute it at one input. -/
def windowHoldsWrong : ChangeSpec := { name := "windowHolds", fn := fun _ => fun
  | [d1, d2, d3, d4] => { results := [.lit (.bool false)], args := [d1, d2, d3, d4] }
  | _ => none }
def WindowHoldsWrongFalsely : Prop := windowHoldsRow.holds Try.pinned (OpenSpec.ofChange windowHoldsWrong)

/-- 'keelsonlaw23.WindowPlays': WHATEVER THE INPUT: true; the input reads as it did. -/
def windowPlaysSpec : ChangeSpec := { name := "windowPlays", fn := fun _ => fun
  | [d1, d2, d3] => { results := [.lit (.bool true)], args := [d1, d2, d3] }
  | _ => none }
def windowPlaysRow : OpenClaim := { program := "ytegnpplffhkjhaa", sum := "bdd9fdb1dd4061391f9120c2f7018d7e5d47df68dc3fe220632535c5b99231d4", func := "keelson/keelsonlaw23.WindowPlays", spec := "windowPlays", unfollowed := true, recurses := true, apart := false }
def WindowPlaysSaid : Prop := windowPlaysRow.holds Try.pinned (OpenSpec.ofChange windowPlaysSpec)

/-- ITS FALSE NEIGHBOUR: 'it returns false'. Refute it at one input. -/
def windowPlaysWrong : ChangeSpec := { name := "windowPlays", fn := fun _ => fun
  | [d1, d2, d3] => { results := [.lit (.bool false)], args := [d1, d2, d3] }
  | _ => none }
def WindowPlaysWrongFalsely : Prop := windowPlaysRow.holds Try.pinned (OpenSpec.ofChange windowPlaysWrong)

/-- 'keelsonlaw23.WindowCuts': WHATEVER THE INPUT: true; the input reads as it did. -/
def windowCutsSpec : ChangeSpec := { name := "windowCuts", fn := fun _ => fun
  | [d1, d2, d3] => { results := [.lit (.bool true)], args := [d1, d2, d3] }
  | _ => none }
def windowCutsRow : OpenClaim := { program := "ytegnpplffhkjhaa", sum := "bdd9fdb1dd4061391f9120c2f7018d7e5d47df68dc3fe220632535c5b99231d4", func := "keelson/keelsonlaw23.WindowCuts", spec := "windowCuts", unfollowed := true, recurses := true, apart := false }
def WindowCutsSaid : Prop := windowCutsRow.holds Try.pinned (OpenSpec.ofChange windowCutsSpec)

/-- ITS FALSE NEIGHBOUR: 'it returns false'. Refute it at one input. -/
def windowCutsWrong : ChangeSpec := { name := "windowCuts", fn := fun _ => fun
  | [d1, d2, d3] => { results := [.lit (.bool false)], args := [d1, d2, d3] }
  | _ => none }
def WindowCutsWrongFalsely : Prop := windowCutsRow.holds Try.pinned (OpenSpec.ofChange windowCutsWrong)

/- THE SECOND FORM. 'bulk': how many values and letters a reading holds, each counted each time it is reached (what is shared counts as often as it is met; a slice's spare places count too). A statement '..UptoSaid' is the law's where the arguments, and the package variables that the reading takes, are together of bulk at most 1048576: NARROWER than '..Said'. Prove '..Said' where nothing that the law and all that it calls make is longer than what came in: it says more and counts as full. Else prove '..UptoSaid'. A law counts once. -/
mutual
def uptoBulk {H : Type} : DataW H → Nat
  | .lit (.string bytes) => bytes.length + 1
  | .lit _ => 1
  | .nil => 1
  | .ptr d => uptoBulk d + 1
  | .slice elems spare => uptoBulkAll elems + uptoBulkAll spare + 1
  | .agg parts => uptoBulkAll parts + 1
  | .iface _ d => uptoBulk d + 1
  | .map entries => uptoBulkEntries entries + 1
  | .held _ => 1
def uptoBulkAll {H : Type} : List (DataW H) → Nat
  | [] => 0
  | d :: r => uptoBulk d + uptoBulkAll r
def uptoBulkEntries {H : Type} : List (Lit × DataW H) → Nat
  | [] => 0
  | x :: r => uptoBulkEntry x + uptoBulkEntries r
def uptoBulkEntry {H : Type} : Lit × DataW H → Nat
  | (.string bytes, d) => bytes.length + uptoBulk d + 1
  | (_, d) => uptoBulk d + 1
 end
def uptoSmall : (H : Type) → List (DataW H) → Bool := fun _ ds => decide (uptoBulkAll ds ≤ 1048576)
def OpenSpec.upto (s : _root_.Go.ChangeSpec) : _root_.Go.OpenSpec := { _root_.Go.OpenSpec.ofChange s with cond := some uptoSmall }

/-- 'keelsonlaw23.WindowOrders', WHERE WHAT IT READS IS OF BULK AT MOST 1048576: true; the input reads as it did. -/
def windowOrdersUptoRow : OpenClaim := { program := "ytegnpplffhkjhaa", sum := "bdd9fdb1dd4061391f9120c2f7018d7e5d47df68dc3fe220632535c5b99231d4", func := "keelson/keelsonlaw23.WindowOrders", spec := "windowOrders", unfollowed := true, recurses := true, apart := false, narrowed := true }
def WindowOrdersUptoSaid : Prop := windowOrdersUptoRow.holds Try.pinned (OpenSpec.upto windowOrdersSpec)

/-- 'keelsonlaw23.WindowHolds', WHERE WHAT IT READS IS OF BULK AT MOST 1048576: true; the input reads as it did. -/
def windowHoldsUptoRow : OpenClaim := { program := "ytegnpplffhkjhaa", sum := "bdd9fdb1dd4061391f9120c2f7018d7e5d47df68dc3fe220632535c5b99231d4", func := "keelson/keelsonlaw23.WindowHolds", spec := "windowHolds", unfollowed := true, recurses := true, apart := false, narrowed := true }
def WindowHoldsUptoSaid : Prop := windowHoldsUptoRow.holds Try.pinned (OpenSpec.upto windowHoldsSpec)

/-- 'keelsonlaw23.WindowPlays', WHERE WHAT IT READS IS OF BULK AT MOST 1048576: true; the input reads as it did. -/
def windowPlaysUptoRow : OpenClaim := { program := "ytegnpplffhkjhaa", sum := "bdd9fdb1dd4061391f9120c2f7018d7e5d47df68dc3fe220632535c5b99231d4", func := "keelson/keelsonlaw23.WindowPlays", spec := "windowPlays", unfollowed := true, recurses := true, apart := false, narrowed := true }
def WindowPlaysUptoSaid : Prop := windowPlaysUptoRow.holds Try.pinned (OpenSpec.upto windowPlaysSpec)

/-- 'keelsonlaw23.WindowCuts', WHERE WHAT IT READS IS OF BULK AT MOST 1048576: true; the input reads as it did. -/
def windowCutsUptoRow : OpenClaim := { program := "ytegnpplffhkjhaa", sum := "bdd9fdb1dd4061391f9120c2f7018d7e5d47df68dc3fe220632535c5b99231d4", func := "keelson/keelsonlaw23.WindowCuts", spec := "windowCuts", unfollowed := true, recurses := true, apart := false, narrowed := true }
def WindowCutsUptoSaid : Prop := windowCutsUptoRow.holds Try.pinned (OpenSpec.upto windowCutsSpec)

end Rows
end Go.Proofs.Ytegnpplffhkjhaa
