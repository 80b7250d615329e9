/-
  No cell of these rows narrows 'for every input' (looked for: loops, veiled, ifaces, maps, wideKeys, modest, calm, conditions, laid).
  DERIVED. THE GIVEN ROWS OF THIS SEAT. 3 by the template 'for every input the law returns true; each argument reads behind the call as it read before'; 0 by the template 'total and deterministic' (their statements: YtfjpapddfdhhlaaTotals.lean).
  GIVEN WITH THE SEED: the statements are not yours to turn. If you find one false, say at which input.
  Laid BY PROGRAM, IN A SANDBOX (cutbox-rows.mjs): the forced cells as the released guide's own fill.sh prints them over the translation 71e54e70f5a491eb… (all of the seat's roots in one cut). By AI agents, Wed Nov 11 2026. No macro, syntax, notation, axiom, sorry.
-/
import Derived.Test.YtfjpapddfdhhlaaChecked
import GoSem.Claim
import GoSem.ClaimJoined
import GoSem.ClaimMapViews
import Derived.JoinedTies
import Derived.KernelRfl
namespace Go.Proofs.Ytfjpapddfdhhlaa
/- THE CELL 'sum', in the pinned program and in every row, IS THE sha256 OF THE DUMP (.gsa) THAT YtfjpapddfdhhlaaProg.lean LOADS. Nothing in Lean hashes anything: it is a label: what it is worth is what the hold of that sum in a sandbox is worth. -/
noncomputable def Try.pinned : Pinned := { name := "ytfjpapddfdhhlaa", sum := "71e54e70f5a491eb0808b3650a3cee2c689d25b6136aa12cb2e520c6e94710c0", checked := Try.checked }
namespace Rows
def none {H : Type} : Left H := { results := [], args := [] }

/-- 'keelsonlaw24.IdealStands': WHATEVER THE INPUT: true; the input reads as it did. -/
def idealStandsSpec : ChangeSpec := { name := "idealStands", fn := fun _ => fun
  | [d1, d2] => { results := [.lit (.bool true)], args := [d1, d2] }
  | _ => none }
def idealStandsRow : OpenClaim := { program := "ytfjpapddfdhhlaa", sum := "71e54e70f5a491eb0808b3650a3cee2c689d25b6136aa12cb2e520c6e94710c0", func := "keelson/keelsonlaw24.IdealStands", spec := "idealStands", apart := false }
def IdealStandsSaid : Prop := idealStandsRow.holds Try.pinned (OpenSpec.ofChange idealStandsSpec)

/-- ITS FALSE NEIGHBOUR: 'it returns false'. Refute it at one input. -/
def idealStandsWrong : ChangeSpec := { name := "idealStands", fn := fun _ => fun
  | [d1, d2] => { results := [.lit (.bool false)], args := [d1, d2] }
  | _ => none }
def IdealStandsWrongFalsely : Prop := idealStandsRow.holds Try.pinned (OpenSpec.ofChange idealStandsWrong)

/-- 'keelsonlaw24.IdealPlays': WHATEVER THE INPUT: true; the input reads as it did. -/
def idealPlaysSpec : ChangeSpec := { name := "idealPlays", fn := fun _ => fun
  | [d1, d2, d3] => { results := [.lit (.bool true)], args := [d1, d2, d3] }
  | _ => none }
def idealPlaysRow : OpenClaim := { program := "ytfjpapddfdhhlaa", sum := "71e54e70f5a491eb0808b3650a3cee2c689d25b6136aa12cb2e520c6e94710c0", func := "keelson/keelsonlaw24.IdealPlays", spec := "idealPlays", unfollowed := true, recurses := true, apart := false }
def IdealPlaysSaid : Prop := idealPlaysRow.holds Try.pinned (OpenSpec.ofChange idealPlaysSpec)

/-- ITS FALSE NEIGHBOUR: 'it returns false'. Refute it at one input. -/
def idealPlaysWrong : ChangeSpec := { name := "idealPlays", fn := fun _ => fun
  | [d1, d2, d3] => { results := [.lit (.bool false)], args := [d1, d2, d3] }
  | _ => none }
def IdealPlaysWrongFalsely : Prop := idealPlaysRow.holds Try.pinned (OpenSpec.ofChange idealPlaysWrong)

/-- 'keelsonlaw24.IdealParts': WHATEVER THE INPUT: true; the input reads as it did. -/
def idealPartsSpec : ChangeSpec := { name := "idealParts", fn := fun _ => fun
  | [d1, d2, d3] => { results := [.lit (.bool true)], args := [d1, d2, d3] }
  | _ => none }
def idealPartsRow : OpenClaim := { program := "ytfjpapddfdhhlaa", sum := "71e54e70f5a491eb0808b3650a3cee2c689d25b6136aa12cb2e520c6e94710c0", func := "keelson/keelsonlaw24.IdealParts", spec := "idealParts", unfollowed := true, recurses := true, apart := false }
def IdealPartsSaid : Prop := idealPartsRow.holds Try.pinned (OpenSpec.ofChange idealPartsSpec)

/-- ITS FALSE NEIGHBOUR: 'it returns false'. Refute it at one input. -/
def idealPartsWrong : ChangeSpec := { name := "idealParts", fn := fun _ => fun
  | [d1, d2, d3] => { results := [.lit (.bool false)], args := [d1, d2, d3] }
  | _ => none }
def IdealPartsWrongFalsely : Prop := idealPartsRow.holds Try.pinned (OpenSpec.ofChange idealPartsWrong)

/- THE SECOND FORM. 'bulk': how many values and letters a reading holds, each counted each time it is reached (what is shared counts as often as it is met; a slice's spare places count too). A statement '..UptoSaid' is the law's where the arguments, and the package variables that the reading takes, are together of bulk at most 1048576: NARROWER than '..Said'. Prove '..Said' where nothing that the law and all that it calls make is longer than what came in: it says more and counts as full. Else prove '..UptoSaid'. A law counts once. -/
mutual
def uptoBulk {H : Type} : DataW H → Nat
  | .lit (.string bytes) => bytes.length + 1
  | .lit _ => 1
  | .nil => 1
  | .ptr d => uptoBulk d + 1
  | .slice elems spare => uptoBulkAll elems + uptoBulkAll spare + 1
  | .agg parts => uptoBulkAll parts + 1
  | .iface _ d => uptoBulk d + 1
  | .map entries => uptoBulkEntries entries + 1
  | .held _ => 1
def uptoBulkAll {H : Type} : List (DataW H) → Nat
  | [] => 0
  | d :: r => uptoBulk d + uptoBulkAll r
def uptoBulkEntries {H : Type} : List (Lit × DataW H) → Nat
  | [] => 0
  | x :: r => uptoBulkEntry x + uptoBulkEntries r
def uptoBulkEntry {H : Type} : Lit × DataW H → Nat
  | (.string bytes, d) => bytes.length + uptoBulk d + 1
  | (_, d) => uptoBulk d + 1
 end
def uptoSmall : (H : Type) → List (DataW H) → Bool := fun _ ds => decide (uptoBulkAll ds ≤ 1048576)
def OpenSpec.upto (s : _root_.Go.ChangeSpec) : _root_.Go.OpenSpec := { _root_.Go.OpenSpec.ofChange s with cond := some uptoSmall }

/-- 'keelsonlaw24.IdealStands', WHERE WHAT IT READS IS OF BULK AT MOST 1048576: true; the input reads as it did. -/
def idealStandsUptoRow : OpenClaim := { program := "ytfjpapddfdhhlaa", sum := "71e54e70f5a491eb0808b3650a3cee2c689d25b6136aa12cb2e520c6e94710c0", func := "keelson/keelsonlaw24.IdealStands", spec := "idealStands", apart := false, narrowed := true }
def IdealStandsUptoSaid : Prop := idealStandsUptoRow.holds Try.pinned (OpenSpec.upto idealStandsSpec)

/-- 'keelsonlaw24.IdealPlays', WHERE WHAT IT READS IS OF BULK AT MOST 1048576: true; the input reads as it did. -/
def idealPlaysUptoRow : OpenClaim := { program := "ytfjpapddfdhhlaa", sum := "71e54e70f5a491eb0808b3650a3cee2c689d25b6136aa12cb2e520c6e94710c0", func := "keelson/keelsonlaw24.IdealPlays", spec := "idealPlays", unfollowed := true, recurses := true, apart := false, narrowed := true }
def IdealPlaysUptoSaid : Prop := idealPlaysUptoRow.holds Try.pinned (OpenSpec.upto idealPlaysSpec)

/-- 'keelsonlaw24.IdealParts', WHERE WHAT IT READS IS OF BULK AT MOST 1048576: true; the input reads as it did. -/
def idealPartsUptoRow : OpenClaim := { program := "ytfjpapddfdhhlaa", sum := "71e54e70f5a491eb0808b3650a3cee2c689d25b6136aa12cb2e520c6e94710c0", func := "keelson/keelsonlaw24.IdealParts", spec := "idealParts", unfollowed := true, recurses := true, apart := false, narrowed := true }
def IdealPartsUptoSaid : Prop := idealPartsUptoRow.holds Try.pinned (OpenSpec.upto idealPartsSpec)

end Rows
end Go.Proofs.Ytfjpapddfdhhlaa
