/-
  No cell of these rows narrows 'for every input' (looked for: loops, veiled, ifaces, maps, wideKeys, modest, calm, conditions, laid).
  DERIVED. THE GIVEN ROWS OF THIS SEAT. 4 by the template 'for every input the law returns true; each argument reads behind the call as it read before'; 0 by the template 'total and deterministic' (their statements: YtdadhppapenjkaaTotals.lean).
  GIVEN WITH THE SEED: the statements are not yours to turn. If you find one false, say at which input.
  Laid BY PROGRAM, IN A SANDBOX (cutbox-rows.mjs): the forced cells as the released guide's own fill.sh prints them over the translation 87b01c1c6b62f567… (all of the seat's roots in one cut). By AI agents, Wed Nov 11 2026. No macro, syntax, notation, axiom, sorry.
-/
import Derived.Test.YtdadhppapenjkaaChecked
import GoSem.Claim
import GoSem.ClaimJoined
import GoSem.ClaimMapViews
import Derived.JoinedTies
import Derived.KernelRfl
namespace Go.Proofs.Ytdadhppapenjkaa
/- THE CELL 'sum', in the pinned program and in every row, IS THE sha256 OF THE DUMP (.gsa) THAT YtdadhppapenjkaaProg.lean LOADS. Nothing in Lean hashes anything: it is a label: what it is worth is what the hold of that sum in a sandbox is worth. -/
noncomputable def Try.pinned : Pinned := { name := "ytdadhppapenjkaa", sum := "87b01c1c6b62f567bda4ed5ae61c5e5c2d8901588ce7bded7ff8e42ff9bb3bcc", checked := Try.checked }
namespace Rows
def none {H : Type} : Left H := { results := [], args := [] }

/-- 'keelsonlaw4.GeomShare': WHATEVER THE INPUT: true; the input reads as it did. -/
def geomShareSpec : ChangeSpec := { name := "geomShare", fn := fun _ => fun
  | [d1, d2] => { results := [.lit (.bool true)], args := [d1, d2] }
  | _ => none }
def geomShareRow : OpenClaim := { program := "ytdadhppapenjkaa", sum := "87b01c1c6b62f567bda4ed5ae61c5e5c2d8901588ce7bded7ff8e42ff9bb3bcc", func := "keelson/keelsonlaw4.GeomShare", spec := "geomShare", apart := false }
def GeomShareSaid : Prop := geomShareRow.holds Try.pinned (OpenSpec.ofChange geomShareSpec)

/-- ITS FALSE NEIGHBOUR: 'it returns false'. Refute it at one input. -/
def geomShareWrong : ChangeSpec := { name := "geomShare", fn := fun _ => fun
  | [d1, d2] => { results := [.lit (.bool false)], args := [d1, d2] }
  | _ => none }
def GeomShareWrongFalsely : Prop := geomShareRow.holds Try.pinned (OpenSpec.ofChange geomShareWrong)

/-- 'keelsonlaw4.GeomWhere': WHATEVER THE INPUT: true; the input reads as it did. -/
def geomWhereSpec : ChangeSpec := { name := "geomWhere", fn := fun _ => fun
  | [d1, d2, d3] => { results := [.lit (.bool true)], args := [d1, d2, d3] }
  | _ => none }
def geomWhereRow : OpenClaim := { program := "ytdadhppapenjkaa", sum := "87b01c1c6b62f567bda4ed5ae61c5e5c2d8901588ce7bded7ff8e42ff9bb3bcc", func := "keelson/keelsonlaw4.GeomWhere", spec := "geomWhere", apart := false }
def GeomWhereSaid : Prop := geomWhereRow.holds Try.pinned (OpenSpec.ofChange geomWhereSpec)

/-- ITS FALSE NEIGHBOUR: 'it returns false'. Refute it at one input. -/
def geomWhereWrong : ChangeSpec := { name := "geomWhere", fn := fun _ => fun
  | [d1, d2, d3] => { results := [.lit (.bool false)], args := [d1, d2, d3] }
  | _ => none }
def GeomWhereWrongFalsely : Prop := geomWhereRow.holds Try.pinned (OpenSpec.ofChange geomWhereWrong)

/-- 'keelsonlaw4.GeomCovers': WHATEVER THE INPUT: true; the input reads as it did. -/
def geomCoversSpec : ChangeSpec := { name := "geomCovers", fn := fun _ => fun
  | [d] => { results := [.lit (.bool true)], args := [d] }
  | _ => none }
def geomCoversRow : OpenClaim := { program := "ytdadhppapenjkaa", sum := "87b01c1c6b62f567bda4ed5ae61c5e5c2d8901588ce7bded7ff8e42ff9bb3bcc", func := "keelson/keelsonlaw4.GeomCovers", spec := "geomCovers", apart := false }
def GeomCoversSaid : Prop := geomCoversRow.holds Try.pinned (OpenSpec.ofChange geomCoversSpec)

/-- ITS FALSE NEIGHBOUR: 'it returns false'. Refute it at one input. -/
def geomCoversWrong : ChangeSpec := { name := "geomCovers", fn := fun _ => fun
  | [d] => { results := [.lit (.bool false)], args := [d] }
  | _ => none }
def GeomCoversWrongFalsely : Prop := geomCoversRow.holds Try.pinned (OpenSpec.ofChange geomCoversWrong)

/-- 'keelsonlaw4.GeomTells': WHATEVER THE INPUT: true; the input reads as it did. -/
def geomTellsSpec : ChangeSpec := { name := "geomTells", fn := fun _ => fun
  | [d1, d2, d3, d4] => { results := [.lit (.bool true)], args := [d1, d2, d3, d4] }
  | _ => none }
def geomTellsRow : OpenClaim := { program := "ytdadhppapenjkaa", sum := "87b01c1c6b62f567bda4ed5ae61c5e5c2d8901588ce7bded7ff8e42ff9bb3bcc", func := "keelson/keelsonlaw4.GeomTells", spec := "geomTells", apart := false }
def GeomTellsSaid : Prop := geomTellsRow.holds Try.pinned (OpenSpec.ofChange geomTellsSpec)

/-- ITS FALSE NEIGHBOUR: 'it returns false'. Refute it at one input. -/
def geomTellsWrong : ChangeSpec := { name := "geomTells", fn := fun _ => fun
  | [d1, d2, d3, d4] => { results := [.lit (.bool false)], args := [d1, d2, d3, d4] }
  | _ => none }
def GeomTellsWrongFalsely : Prop := geomTellsRow.holds Try.pinned (OpenSpec.ofChange geomTellsWrong)

/- THE SECOND FORM. 'bulk': how many values and letters a reading holds, each counted each time it is reached (what is shared counts as often as it is met; a slice's spare places count too). A statement '..UptoSaid' is the law's where the arguments, and the package variables that the reading takes, are together of bulk at most 1048576: NARROWER than '..Said'. Prove '..Said' where nothing that the law and all that it calls make is longer than what came in: it says more and counts as full. Else prove '..UptoSaid'. A law counts once. -/
mutual
def uptoBulk {H : Type} : DataW H → Nat
  | .lit (.string bytes) => bytes.length + 1
  | .lit _ => 1
  | .nil => 1
  | .ptr d => uptoBulk d + 1
  | .slice elems spare => uptoBulkAll elems + uptoBulkAll spare + 1
  | .agg parts => uptoBulkAll parts + 1
  | .iface _ d => uptoBulk d + 1
  | .map entries => uptoBulkEntries entries + 1
  | .held _ => 1
def uptoBulkAll {H : Type} : List (DataW H) → Nat
  | [] => 0
  | d :: r => uptoBulk d + uptoBulkAll r
def uptoBulkEntries {H : Type} : List (Lit × DataW H) → Nat
  | [] => 0
  | x :: r => uptoBulkEntry x + uptoBulkEntries r
def uptoBulkEntry {H : Type} : Lit × DataW H → Nat
  | (.string bytes, d) => bytes.length + uptoBulk d + 1
  | (_, d) => uptoBulk d + 1
 end
def uptoSmall : (H : Type) → List (DataW H) → Bool := fun _ ds => decide (uptoBulkAll ds ≤ 1048576)
def OpenSpec.upto (s : _root_.Go.ChangeSpec) : _root_.Go.OpenSpec := { _root_.Go.OpenSpec.ofChange s with cond := some uptoSmall }

/-- 'keelsonlaw4.GeomShare', WHERE WHAT IT READS IS OF BULK AT MOST 1048576: true; the input reads as it did. -/
def geomShareUptoRow : OpenClaim := { program := "ytdadhppapenjkaa", sum := "87b01c1c6b62f567bda4ed5ae61c5e5c2d8901588ce7bded7ff8e42ff9bb3bcc", func := "keelson/keelsonlaw4.GeomShare", spec := "geomShare", apart := false, narrowed := true }
def GeomShareUptoSaid : Prop := geomShareUptoRow.holds Try.pinned (OpenSpec.upto geomShareSpec)

/-- 'keelsonlaw4.GeomWhere', WHERE WHAT IT READS IS OF BULK AT MOST 1048576: true; the input reads as it did. -/
def geomWhereUptoRow : OpenClaim := { program := "ytdadhppapenjkaa", sum := "87b01c1c6b62f567bda4ed5ae61c5e5c2d8901588ce7bded7ff8e42ff9bb3bcc", func := "keelson/keelsonlaw4.GeomWhere", spec := "geomWhere", apart := false, narrowed := true }
def GeomWhereUptoSaid : Prop := geomWhereUptoRow.holds Try.pinned (OpenSpec.upto geomWhereSpec)

/-- 'keelsonlaw4.GeomCovers', WHERE WHAT IT READS IS OF BULK AT MOST 1048576: true; the input reads as it did. -/
def geomCoversUptoRow : OpenClaim := { program := "ytdadhppapenjkaa", sum := "87b01c1c6b62f567bda4ed5ae61c5e5c2d8901588ce7bded7ff8e42ff9bb3bcc", func := "keelson/keelsonlaw4.GeomCovers", spec := "geomCovers", apart := false, narrowed := true }
def GeomCoversUptoSaid : Prop := geomCoversUptoRow.holds Try.pinned (OpenSpec.upto geomCoversSpec)

/-- 'keelsonlaw4.GeomTells', WHERE WHAT IT READS IS OF BULK AT MOST 1048576: true; the input reads as it did. -/
def geomTellsUptoRow : OpenClaim := { program := "ytdadhppapenjkaa", sum := "87b01c1c6b62f567bda4ed5ae61c5e5c2d8901588ce7bded7ff8e42ff9bb3bcc", func := "keelson/keelsonlaw4.GeomTells", spec := "geomTells", apart := false, narrowed := true }
def GeomTellsUptoSaid : Prop := geomTellsUptoRow.holds Try.pinned (OpenSpec.upto geomTellsSpec)

end Rows
end Go.Proofs.Ytdadhppapenjkaa
