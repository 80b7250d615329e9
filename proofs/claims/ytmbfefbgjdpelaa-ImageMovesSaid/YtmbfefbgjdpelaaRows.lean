/-
  No cell of these rows narrows 'for every input' (looked for: loops, veiled, ifaces, maps, wideKeys, modest, calm, conditions, laid).
  DERIVED. THE GIVEN ROWS OF THIS SEAT. 3 by the template 'for every input the law returns true; each argument reads behind the call as it read before'; 0 by the template 'total and deterministic' (their statements: YtmbfefbgjdpelaaTotals.lean).
  GIVEN WITH THE SEED: the statements are not yours to turn. If you find one false, say at which input.
  Laid BY PROGRAM, IN A SANDBOX (cutbox-rows.mjs): the forced cells as the released guide's own fill.sh prints them over the translation d6560716a9735d68… (all of the seat's roots in one cut). By AI agents, Wed Nov 11 2026. No macro, syntax, notation, axiom, sorry.
-/
import Derived.Test.YtmbfefbgjdpelaaChecked
import GoSem.Claim
import GoSem.ClaimJoined
import GoSem.ClaimMapViews
import Derived.JoinedTies
import Derived.KernelRfl
namespace Go.Proofs.Ytmbfefbgjdpelaa
/- THE CELL 'sum', in the pinned program and in every row, IS THE sha256 OF THE DUMP (.gsa) THAT YtmbfefbgjdpelaaProg.lean LOADS. Nothing in Lean hashes anything: it is a label: what it is worth is what the hold of that sum in a sandbox is worth. -/
noncomputable def Try.pinned : Pinned := { name := "ytmbfefbgjdpelaa", sum := "d6560716a9735d680431c8ecc8ffd2702de52c5b83a56cf8e3f17a169422273f", checked := Try.checked }
namespace Rows
def none {H : Type} : Left H := { results := [], args := [] }

/-- 'keelsonlaw16.ImageStands': WHATEVER THE INPUT: true; the input reads as it did. -/
def imageStandsSpec : ChangeSpec := { name := "imageStands", fn := fun _ => fun
  | [d1, d2] => { results := [.lit (.bool true)], args := [d1, d2] }
  | _ => none }
def imageStandsRow : OpenClaim := { program := "ytmbfefbgjdpelaa", sum := "d6560716a9735d680431c8ecc8ffd2702de52c5b83a56cf8e3f17a169422273f", func := "keelson/keelsonlaw16.ImageStands", spec := "imageStands", unfollowed := true, recurses := true, apart := false }
def ImageStandsSaid : Prop := imageStandsRow.holds Try.pinned (OpenSpec.ofChange imageStandsSpec)

/-- ITS FALSE NEIGHBOUR: 'it returns false'. Refute it at one input. -/
def imageStandsWrong : ChangeSpec := { name := "imageStands", fn := fun _ => fun
  | [d1, d2] => { results := [.lit (.bool false)], args := [d1, d2] }
  | _ => none }
def ImageStandsWrongFalsely : Prop := imageStandsRow.holds Try.pinned (OpenSpec.ofChange imageStandsWrong)

/-- 'keelsonlaw16.ImageGoes': WHATEVER THE INPUT: true; the input reads as it did. -/
def imageGoesSpec : ChangeSpec := { name := "imageGoes", fn := fun _ => fun
  | [d1, d2] => { results := [.lit (.bool true)], args := [d1, d2] }
  | _ => none }
def imageGoesRow : OpenClaim := { program := "ytmbfefbgjdpelaa", sum := "d6560716a9735d680431c8ecc8ffd2702de52c5b83a56cf8e3f17a169422273f", func := "keelson/keelsonlaw16.ImageGoes", spec := "imageGoes", unfollowed := true, recurses := true, apart := false }
def ImageGoesSaid : Prop := imageGoesRow.holds Try.pinned (OpenSpec.ofChange imageGoesSpec)

/-- ITS FALSE NEIGHBOUR: 'it returns false'. Refute it at one input. -/
def imageGoesWrong : ChangeSpec := { name := "imageGoes", fn := fun _ => fun
  | [d1, d2] => { results := [.lit (.bool false)], args := [d1, d2] }
  | _ => none }
def ImageGoesWrongFalsely : Prop := imageGoesRow.holds Try.pinned (OpenSpec.ofChange imageGoesWrong)

/-- 'keelsonlaw16.ImageMoves': WHATEVER THE INPUT: true; the input reads as it did. -/
def imageMovesSpec : ChangeSpec := { name := "imageMoves", fn := fun _ => fun
  | [d1, d2, d3, d4, d5] => { results := [.lit (.bool true)], args := [d1, d2, d3, d4, d5] }
  | _ => none }
def imageMovesRow : OpenClaim := { program := "ytmbfefbgjdpelaa", sum := "d6560716a9735d680431c8ecc8ffd2702de52c5b83a56cf8e3f17a169422273f", func := "keelson/keelsonlaw16.ImageMoves", spec := "imageMoves", unfollowed := true, recurses := true, apart := false }
def ImageMovesSaid : Prop := imageMovesRow.holds Try.pinned (OpenSpec.ofChange imageMovesSpec)

/-- ITS FALSE NEIGHBOUR: 'it returns false'. Refute it at one input. -/
def imageMovesWrong : ChangeSpec := { name := "imageMoves", fn := fun _ => fun
  | [d1, d2, d3, d4, d5] => { results := [.lit (.bool false)], args := [d1, d2, d3, d4, d5] }
  | _ => none }
def ImageMovesWrongFalsely : Prop := imageMovesRow.holds Try.pinned (OpenSpec.ofChange imageMovesWrong)

/- THE SECOND FORM. 'bulk': how many values and letters a reading holds, each counted each time it is reached (what is shared counts as often as it is met; a slice's spare places count too). A statement '..UptoSaid' is the law's where the arguments, and the package variables that the reading takes, are together of bulk at most 1048576: NARROWER than '..Said'. Prove '..Said' where nothing that the law and all that it calls make is longer than what came in: it says more and counts as full. Else prove '..UptoSaid'. A law counts once. -/
mutual
def uptoBulk {H : Type} : DataW H → Nat
  | .lit (.string bytes) => bytes.length + 1
  | .lit _ => 1
  | .nil => 1
  | .ptr d => uptoBulk d + 1
  | .slice elems spare => uptoBulkAll elems + uptoBulkAll spare + 1
  | .agg parts => uptoBulkAll parts + 1
  | .iface _ d => uptoBulk d + 1
  | .map entries => uptoBulkEntries entries + 1
  | .held _ => 1
def uptoBulkAll {H : Type} : List (DataW H) → Nat
  | [] => 0
  | d :: r => uptoBulk d + uptoBulkAll r
def uptoBulkEntries {H : Type} : List (Lit × DataW H) → Nat
  | [] => 0
  | x :: r => uptoBulkEntry x + uptoBulkEntries r
def uptoBulkEntry {H : Type} : Lit × DataW H → Nat
  | (.string bytes, d) => bytes.length + uptoBulk d + 1
  | (_, d) => uptoBulk d + 1
 end
def uptoSmall : (H : Type) → List (DataW H) → Bool := fun _ ds => decide (uptoBulkAll ds ≤ 1048576)
def OpenSpec.upto (s : _root_.Go.ChangeSpec) : _root_.Go.OpenSpec := { _root_.Go.OpenSpec.ofChange s with cond := some uptoSmall }

/-- 'keelsonlaw16.ImageStands', WHERE WHAT IT READS IS OF BULK AT MOST 1048576: true; the input reads as it did. -/
def imageStandsUptoRow : OpenClaim := { program := "ytmbfefbgjdpelaa", sum := "d6560716a9735d680431c8ecc8ffd2702de52c5b83a56cf8e3f17a169422273f", func := "keelson/keelsonlaw16.ImageStands", spec := "imageStands", unfollowed := true, recurses := true, apart := false, narrowed := true }
def ImageStandsUptoSaid : Prop := imageStandsUptoRow.holds Try.pinned (OpenSpec.upto imageStandsSpec)

/-- 'keelsonlaw16.ImageGoes', WHERE WHAT IT READS IS OF BULK AT MOST 1048576: true; the input reads as it did. -/
def imageGoesUptoRow : OpenClaim := { program := "ytmbfefbgjdpelaa", sum := "d6560716a9735d680431c8ecc8ffd2702de52c5b83a56cf8e3f17a169422273f", func := "keelson/keelsonlaw16.ImageGoes", spec := "imageGoes", unfollowed := true, recurses := true, apart := false, narrowed := true }
def ImageGoesUptoSaid : Prop := imageGoesUptoRow.holds Try.pinned (OpenSpec.upto imageGoesSpec)

/-- 'keelsonlaw16.ImageMoves', WHERE WHAT IT READS IS OF BULK AT MOST 1048576: true; the input reads as it did. -/
def imageMovesUptoRow : OpenClaim := { program := "ytmbfefbgjdpelaa", sum := "d6560716a9735d680431c8ecc8ffd2702de52c5b83a56cf8e3f17a169422273f", func := "keelson/keelsonlaw16.ImageMoves", spec := "imageMoves", unfollowed := true, recurses := true, apart := false, narrowed := true }
def ImageMovesUptoSaid : Prop := imageMovesUptoRow.holds Try.pinned (OpenSpec.upto imageMovesSpec)

end Rows
end Go.Proofs.Ytmbfefbgjdpelaa
