/-
  No cell of these rows narrows 'for every input' (looked for: loops, veiled, ifaces, maps, wideKeys, modest, calm, conditions, laid).
  DERIVED. THE GIVEN ROWS OF THIS SEAT. 5 by the template 'for every input the law returns true; each argument reads behind the call as it read before'; 0 by the template 'total and deterministic' (their statements: YtinjkdoikljakaaTotals.lean).
  GIVEN WITH THE SEED: the statements are not yours to turn. If you find one false, say at which input.
  Laid BY PROGRAM, IN A SANDBOX (cutbox-rows.mjs): the forced cells as the released guide's own fill.sh prints them over the translation 4ceb2018c2f83c2c… (all of the seat's roots in one cut). By AI agents, Wed Nov 11 2026. No macro, syntax, notation, axiom, sorry.
-/
import Derived.Test.YtinjkdoikljakaaChecked
import GoSem.Claim
import GoSem.ClaimJoined
import GoSem.ClaimMapViews
import Derived.JoinedTies
import Derived.KernelRfl
namespace Go.Proofs.Ytinjkdoikljakaa
/- THE CELL 'sum', in the pinned program and in every row, IS THE sha256 OF THE DUMP (.gsa) THAT YtinjkdoikljakaaProg.lean LOADS. Nothing in Lean hashes anything: it is a label: what it is worth is what the hold of that sum in a sandbox is worth. -/
noncomputable def Try.pinned : Pinned := { name := "ytinjkdoikljakaa", sum := "4ceb2018c2f83c2c218059d5510c591b0bbcf3ef761e053d2a4d49cd2c5e8ba2", checked := Try.checked }
namespace Rows
def none {H : Type} : Left H := { results := [], args := [] }

/-- 'keelsonlaw19.VictimScores': WHATEVER THE INPUT: true; the input reads as it did. -/
def victimScoresSpec : ChangeSpec := { name := "victimScores", fn := fun _ => fun
  | [d1, d2, d3] => { results := [.lit (.bool true)], args := [d1, d2, d3] }
  | _ => none }
def victimScoresRow : OpenClaim := { program := "ytinjkdoikljakaa", sum := "4ceb2018c2f83c2c218059d5510c591b0bbcf3ef761e053d2a4d49cd2c5e8ba2", func := "keelson/keelsonlaw19.VictimScores", spec := "victimScores", unfollowed := true, recurses := true, apart := false }
def VictimScoresSaid : Prop := victimScoresRow.holds Try.pinned (OpenSpec.ofChange victimScoresSpec)

/-- ITS FALSE NEIGHBOUR: 'it returns false'. Refute it at one input. -/
def victimScoresWrong : ChangeSpec := { name := "victimScores", fn := fun _ => fun
  | [d1, d2, d3] => { results := [.lit (.bool false)], args := [d1, d2, d3] }
  | _ => none }
def VictimScoresWrongFalsely : Prop := victimScoresRow.holds Try.pinned (OpenSpec.ofChange victimScoresWrong)

/-- 'keelsonlaw19.VictimRises': WHATEVER THE INPUT: true; the input reads as it did. -/
def victimRisesSpec : ChangeSpec := { name := "victimRises", fn := fun _ => fun
  | [d1, d2, d3, d4, d5] => { results := [.lit (.bool true)], args := [d1, d2, d3, d4, d5] }
  | _ => none }
def victimRisesRow : OpenClaim := { program := "ytinjkdoikljakaa", sum := "4ceb2018c2f83c2c218059d5510c591b0bbcf3ef761e053d2a4d49cd2c5e8ba2", func := "keelson/keelsonlaw19.VictimRises", spec := "victimRises", unfollowed := true, recurses := true, apart := false }
def VictimRisesSaid : Prop := victimRisesRow.holds Try.pinned (OpenSpec.ofChange victimRisesSpec)

/-- ITS FALSE NEIGHBOUR: 'it returns false'. Refute it at one input. -/
def victimRisesWrong : ChangeSpec := { name := "victimRises", fn := fun _ => fun
  | [d1, d2, d3, d4, d5] => { results := [.lit (.bool false)], args := [d1, d2, d3, d4, d5] }
  | _ => none }
def VictimRisesWrongFalsely : Prop := victimRisesRow.holds Try.pinned (OpenSpec.ofChange victimRisesWrong)

/-- 'keelsonlaw19.VictimOrders': WHATEVER THE INPUT: true; the input reads as it did. -/
def victimOrdersSpec : ChangeSpec := { name := "victimOrders", fn := fun _ => fun
  | [d1, d2, d3] => { results := [.lit (.bool true)], args := [d1, d2, d3] }
  | _ => none }
def victimOrdersRow : OpenClaim := { program := "ytinjkdoikljakaa", sum := "4ceb2018c2f83c2c218059d5510c591b0bbcf3ef761e053d2a4d49cd2c5e8ba2", func := "keelson/keelsonlaw19.VictimOrders", spec := "victimOrders", unfollowed := true, recurses := true, apart := false }
def VictimOrdersSaid : Prop := victimOrdersRow.holds Try.pinned (OpenSpec.ofChange victimOrdersSpec)

/-- ITS FALSE NEIGHBOUR: 'it returns false'. Refute it at one input. -/
def victimOrdersWrong : ChangeSpec := { name := "victimOrders", fn := fun _ => fun
  | [d1, d2, d3] => { results := [.lit (.bool false)], args := [d1, d2, d3] }
  | _ => none }
def VictimOrdersWrongFalsely : Prop := victimOrdersRow.holds Try.pinned (OpenSpec.ofChange victimOrdersWrong)

/-- 'keelsonlaw19.VictimPicks': WHATEVER THE INPUT: true; the input reads as it did. -/
def victimPicksSpec : ChangeSpec := { name := "victimPicks", fn := fun _ => fun
  | [d1, d2, d3, d4, d5] => { results := [.lit (.bool true)], args := [d1, d2, d3, d4, d5] }
  | _ => none }
def victimPicksRow : OpenClaim := { program := "ytinjkdoikljakaa", sum := "4ceb2018c2f83c2c218059d5510c591b0bbcf3ef761e053d2a4d49cd2c5e8ba2", func := "keelson/keelsonlaw19.VictimPicks", spec := "victimPicks", unfollowed := true, recurses := true, apart := false }
def VictimPicksSaid : Prop := victimPicksRow.holds Try.pinned (OpenSpec.ofChange victimPicksSpec)

/-- ITS FALSE NEIGHBOUR: 'it returns false'. Refute it at one input. -/
def victimPicksWrong : ChangeSpec := { name := "victimPicks", fn := fun _ => fun
  | [d1, d2, d3, d4, d5] => { results := [.lit (.bool false)], args := [d1, d2, d3, d4, d5] }
  | _ => none }
def VictimPicksWrongFalsely : Prop := victimPicksRow.holds Try.pinned (OpenSpec.ofChange victimPicksWrong)

/-- 'keelsonlaw19.VictimBest': WHATEVER THE INPUT: true; the input reads as it did. -/
def victimBestSpec : ChangeSpec := { name := "victimBest", fn := fun _ => fun
  | [d1, d2, d3, d4, d5] => { results := [.lit (.bool true)], args := [d1, d2, d3, d4, d5] }
  | _ => none }
def victimBestRow : OpenClaim := { program := "ytinjkdoikljakaa", sum := "4ceb2018c2f83c2c218059d5510c591b0bbcf3ef761e053d2a4d49cd2c5e8ba2", func := "keelson/keelsonlaw19.VictimBest", spec := "victimBest", unfollowed := true, recurses := true, apart := false }
def VictimBestSaid : Prop := victimBestRow.holds Try.pinned (OpenSpec.ofChange victimBestSpec)

/-- ITS FALSE NEIGHBOUR: 'it returns false'. Refute it at one input. -/
def victimBestWrong : ChangeSpec := { name := "victimBest", fn := fun _ => fun
  | [d1, d2, d3, d4, d5] => { results := [.lit (.bool false)], args := [d1, d2, d3, d4, d5] }
  | _ => none }
def VictimBestWrongFalsely : Prop := victimBestRow.holds Try.pinned (OpenSpec.ofChange victimBestWrong)

/- THE SECOND FORM. 'bulk': how many values and letters a reading holds, each counted each time it is reached (what is shared counts as often as it is met; a slice's spare places count too). A statement '..UptoSaid' is the law's where the arguments, and the package variables that the reading takes, are together of bulk at most 1048576: NARROWER than '..Said'. Prove '..Said' where nothing that the law and all that it calls make is longer than what came in: it says more and counts as full. Else prove '..UptoSaid'. A law counts once. -/
mutual
def uptoBulk {H : Type} : DataW H → Nat
  | .lit (.string bytes) => bytes.length + 1
  | .lit _ => 1
  | .nil => 1
  | .ptr d => uptoBulk d + 1
  | .slice elems spare => uptoBulkAll elems + uptoBulkAll spare + 1
  | .agg parts => uptoBulkAll parts + 1
  | .iface _ d => uptoBulk d + 1
  | .map entries => uptoBulkEntries entries + 1
  | .held _ => 1
def uptoBulkAll {H : Type} : List (DataW H) → Nat
  | [] => 0
  | d :: r => uptoBulk d + uptoBulkAll r
def uptoBulkEntries {H : Type} : List (Lit × DataW H) → Nat
  | [] => 0
  | x :: r => uptoBulkEntry x + uptoBulkEntries r
def uptoBulkEntry {H : Type} : Lit × DataW H → Nat
  | (.string bytes, d) => bytes.length + uptoBulk d + 1
  | (_, d) => uptoBulk d + 1
 end
def uptoSmall : (H : Type) → List (DataW H) → Bool := fun _ ds => decide (uptoBulkAll ds ≤ 1048576)
def OpenSpec.upto (s : _root_.Go.ChangeSpec) : _root_.Go.OpenSpec := { _root_.Go.OpenSpec.ofChange s with cond := some uptoSmall }

/-- 'keelsonlaw19.VictimScores', WHERE WHAT IT READS IS OF BULK AT MOST 1048576: true; the input reads as it did. -/
def victimScoresUptoRow : OpenClaim := { program := "ytinjkdoikljakaa", sum := "4ceb2018c2f83c2c218059d5510c591b0bbcf3ef761e053d2a4d49cd2c5e8ba2", func := "keelson/keelsonlaw19.VictimScores", spec := "victimScores", unfollowed := true, recurses := true, apart := false, narrowed := true }
def VictimScoresUptoSaid : Prop := victimScoresUptoRow.holds Try.pinned (OpenSpec.upto victimScoresSpec)

/-- 'keelsonlaw19.VictimRises', WHERE WHAT IT READS IS OF BULK AT MOST 1048576: true; the input reads as it did. -/
def victimRisesUptoRow : OpenClaim := { program := "ytinjkdoikljakaa", sum := "4ceb2018c2f83c2c218059d5510c591b0bbcf3ef761e053d2a4d49cd2c5e8ba2", func := "keelson/keelsonlaw19.VictimRises", spec := "victimRises", unfollowed := true, recurses := true, apart := false, narrowed := true }
def VictimRisesUptoSaid : Prop := victimRisesUptoRow.holds Try.pinned (OpenSpec.upto victimRisesSpec)

/-- 'keelsonlaw19.VictimOrders', WHERE WHAT IT READS IS OF BULK AT MOST 1048576: true; the input reads as it did. -/
def victimOrdersUptoRow : OpenClaim := { program := "ytinjkdoikljakaa", sum := "4ceb2018c2f83c2c218059d5510c591b0bbcf3ef761e053d2a4d49cd2c5e8ba2", func := "keelson/keelsonlaw19.VictimOrders", spec := "victimOrders", unfollowed := true, recurses := true, apart := false, narrowed := true }
def VictimOrdersUptoSaid : Prop := victimOrdersUptoRow.holds Try.pinned (OpenSpec.upto victimOrdersSpec)

/-- 'keelsonlaw19.VictimPicks', WHERE WHAT IT READS IS OF BULK AT MOST 1048576: true; the input reads as it did. -/
def victimPicksUptoRow : OpenClaim := { program := "ytinjkdoikljakaa", sum := "4ceb2018c2f83c2c218059d5510c591b0bbcf3ef761e053d2a4d49cd2c5e8ba2", func := "keelson/keelsonlaw19.VictimPicks", spec := "victimPicks", unfollowed := true, recurses := true, apart := false, narrowed := true }
def VictimPicksUptoSaid : Prop := victimPicksUptoRow.holds Try.pinned (OpenSpec.upto victimPicksSpec)

/-- 'keelsonlaw19.VictimBest', WHERE WHAT IT READS IS OF BULK AT MOST 1048576: true; the input reads as it did. -/
def victimBestUptoRow : OpenClaim := { program := "ytinjkdoikljakaa", sum := "4ceb2018c2f83c2c218059d5510c591b0bbcf3ef761e053d2a4d49cd2c5e8ba2", func := "keelson/keelsonlaw19.VictimBest", spec := "victimBest", unfollowed := true, recurses := true, apart := false, narrowed := true }
def VictimBestUptoSaid : Prop := victimBestUptoRow.holds Try.pinned (OpenSpec.upto victimBestSpec)

end Rows
end Go.Proofs.Ytinjkdoikljakaa
