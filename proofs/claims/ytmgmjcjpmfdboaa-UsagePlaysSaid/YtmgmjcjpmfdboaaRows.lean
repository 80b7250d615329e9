/-
  No cell of these rows narrows 'for every input' (looked for: loops, veiled, ifaces, maps, wideKeys, modest, calm, conditions, laid).
  DERIVED. THE GIVEN ROWS OF THIS SEAT. 4 by the template 'for every input the law returns true; each argument reads behind the call as it read before'; 0 by the template 'total and deterministic' (their statements: YtmgmjcjpmfdboaaTotals.lean).
  GIVEN WITH THE SEED: the statements are not yours to turn. If you find one false, say at which input.
  Laid BY PROGRAM, IN A SANDBOX (cutbox-rows.mjs): the forced cells as the released guide's own fill.sh prints them over the translation fb4996a9cf650999… (all of the seat's roots in one cut). By AI agents, Wed Nov 11 2026. No macro, syntax, notation, axiom, sorry.
-/
import Derived.Test.YtmgmjcjpmfdboaaChecked
import GoSem.Claim
import GoSem.ClaimJoined
import GoSem.ClaimMapViews
import Derived.JoinedTies
import Derived.KernelRfl
namespace Go.Proofs.Ytmgmjcjpmfdboaa
/- THE CELL 'sum', in the pinned program and in every row, IS THE sha256 OF THE DUMP (.gsa) THAT YtmgmjcjpmfdboaaProg.lean LOADS. Nothing in Lean hashes anything: it is a label: what it is worth is what the hold of that sum in a sandbox is worth. -/
noncomputable def Try.pinned : Pinned := { name := "ytmgmjcjpmfdboaa", sum := "fb4996a9cf650999c670f3dd5c8db1a713356764514f45db8b98df153b2c1537", checked := Try.checked }
namespace Rows
def none {H : Type} : Left H := { results := [], args := [] }

/-- 'keelsonlaw12.UsageTakes': WHATEVER THE INPUT: true; the input reads as it did. -/
def usageTakesSpec : ChangeSpec := { name := "usageTakes", fn := fun _ => fun
  | [d1, d2, d3] => { results := [.lit (.bool true)], args := [d1, d2, d3] }
  | _ => none }
def usageTakesRow : OpenClaim := { program := "ytmgmjcjpmfdboaa", sum := "fb4996a9cf650999c670f3dd5c8db1a713356764514f45db8b98df153b2c1537", func := "keelson/keelsonlaw12.UsageTakes", spec := "usageTakes", unfollowed := true, recurses := true, apart := false }
def UsageTakesSaid : Prop := usageTakesRow.holds Try.pinned (OpenSpec.ofChange usageTakesSpec)

/-- ITS FALSE NEIGHBOUR: 'it returns false'. Refute it at one input. -/
def usageTakesWrong : ChangeSpec := { name := "usageTakes", fn := fun _ => fun
  | [d1, d2, d3] => { results := [.lit (.bool false)], args := [d1, d2, d3] }
  | _ => none }
def UsageTakesWrongFalsely : Prop := usageTakesRow.holds Try.pinned (OpenSpec.ofChange usageTakesWrong)

/-- 'keelsonlaw12.UsageLives': WHATEVER THE INPUT: true; the input reads as it did. -/
def usageLivesSpec : ChangeSpec := { name := "usageLives", fn := fun _ => fun
  | [d1, d2] => { results := [.lit (.bool true)], args := [d1, d2] }
  | _ => none }
def usageLivesRow : OpenClaim := { program := "ytmgmjcjpmfdboaa", sum := "fb4996a9cf650999c670f3dd5c8db1a713356764514f45db8b98df153b2c1537", func := "keelson/keelsonlaw12.UsageLives", spec := "usageLives", unfollowed := true, recurses := true, apart := false }
def UsageLivesSaid : Prop := usageLivesRow.holds Try.pinned (OpenSpec.ofChange usageLivesSpec)

/-- ITS FALSE NEIGHBOUR: 'it returns false'. Refute it at one input. -/
def usageLivesWrong : ChangeSpec := { name := "usageLives", fn := fun _ => fun
  | [d1, d2] => { results := [.lit (.bool false)], args := [d1, d2] }
  | _ => none }
def UsageLivesWrongFalsely : Prop := usageLivesRow.holds Try.pinned (OpenSpec.ofChange usageLivesWrong)

/-- 'keelsonlaw12.UsageStates': WHATEVER THE INPUT: true; the input reads as it did. -/
def usageStatesSpec : ChangeSpec := { name := "usageStates", fn := fun _ => fun
  | [d1, d2, d3] => { results := [.lit (.bool true)], args := [d1, d2, d3] }
  | _ => none }
def usageStatesRow : OpenClaim := { program := "ytmgmjcjpmfdboaa", sum := "fb4996a9cf650999c670f3dd5c8db1a713356764514f45db8b98df153b2c1537", func := "keelson/keelsonlaw12.UsageStates", spec := "usageStates", unfollowed := true, recurses := true, apart := false }
def UsageStatesSaid : Prop := usageStatesRow.holds Try.pinned (OpenSpec.ofChange usageStatesSpec)

/-- ITS FALSE NEIGHBOUR: 'it returns false'. Refute it at one input. -/
def usageStatesWrong : ChangeSpec := { name := "usageStates", fn := fun _ => fun
  | [d1, d2, d3] => { results := [.lit (.bool false)], args := [d1, d2, d3] }
  | _ => none }
def UsageStatesWrongFalsely : Prop := usageStatesRow.holds Try.pinned (OpenSpec.ofChange usageStatesWrong)

/-- 'keelsonlaw12.UsagePlays': WHATEVER THE INPUT: true; the input reads as it did. -/
def usagePlaysSpec : ChangeSpec := { name := "usagePlays", fn := fun _ => fun
  | [d1, d2, d3] => { results := [.lit (.bool true)], args := [d1, d2, d3] }
  | _ => none }
def usagePlaysRow : OpenClaim := { program := "ytmgmjcjpmfdboaa", sum := "fb4996a9cf650999c670f3dd5c8db1a713356764514f45db8b98df153b2c1537", func := "keelson/keelsonlaw12.UsagePlays", spec := "usagePlays", unfollowed := true, recurses := true, apart := false }
def UsagePlaysSaid : Prop := usagePlaysRow.holds Try.pinned (OpenSpec.ofChange usagePlaysSpec)

/-- ITS FALSE NEIGHBOUR: 'it returns false'. Refute it at one input. -/
def usagePlaysWrong : ChangeSpec := { name := "usagePlays", fn := fun _ => fun
  | [d1, d2, d3] => { results := [.lit (.bool false)], args := [d1, d2, d3] }
  | _ => none }
def UsagePlaysWrongFalsely : Prop := usagePlaysRow.holds Try.pinned (OpenSpec.ofChange usagePlaysWrong)

/- THE SECOND FORM. 'bulk': how many values and letters a reading holds, each counted each time it is reached (what is shared counts as often as it is met; a slice's spare places count too). A statement '..UptoSaid' is the law's where the arguments, and the package variables that the reading takes, are together of bulk at most 1048576: NARROWER than '..Said'. Prove '..Said' where nothing that the law and all that it calls make is longer than what came in: it says more and counts as full. Else prove '..UptoSaid'. A law counts once. -/
mutual
def uptoBulk {H : Type} : DataW H → Nat
  | .lit (.string bytes) => bytes.length + 1
  | .lit _ => 1
  | .nil => 1
  | .ptr d => uptoBulk d + 1
  | .slice elems spare => uptoBulkAll elems + uptoBulkAll spare + 1
  | .agg parts => uptoBulkAll parts + 1
  | .iface _ d => uptoBulk d + 1
  | .map entries => uptoBulkEntries entries + 1
  | .held _ => 1
def uptoBulkAll {H : Type} : List (DataW H) → Nat
  | [] => 0
  | d :: r => uptoBulk d + uptoBulkAll r
def uptoBulkEntries {H : Type} : List (Lit × DataW H) → Nat
  | [] => 0
  | x :: r => uptoBulkEntry x + uptoBulkEntries r
def uptoBulkEntry {H : Type} : Lit × DataW H → Nat
  | (.string bytes, d) => bytes.length + uptoBulk d + 1
  | (_, d) => uptoBulk d + 1
 end
def uptoSmall : (H : Type) → List (DataW H) → Bool := fun _ ds => decide (uptoBulkAll ds ≤ 1048576)
def OpenSpec.upto (s : _root_.Go.ChangeSpec) : _root_.Go.OpenSpec := { _root_.Go.OpenSpec.ofChange s with cond := some uptoSmall }

/-- 'keelsonlaw12.UsageTakes', WHERE WHAT IT READS IS OF BULK AT MOST 1048576: true; the input reads as it did. -/
def usageTakesUptoRow : OpenClaim := { program := "ytmgmjcjpmfdboaa", sum := "fb4996a9cf650999c670f3dd5c8db1a713356764514f45db8b98df153b2c1537", func := "keelson/keelsonlaw12.UsageTakes", spec := "usageTakes", unfollowed := true, recurses := true, apart := false, narrowed := true }
def UsageTakesUptoSaid : Prop := usageTakesUptoRow.holds Try.pinned (OpenSpec.upto usageTakesSpec)

/-- 'keelsonlaw12.UsageLives', WHERE WHAT IT READS IS OF BULK AT MOST 1048576: true; the input reads as it did. -/
def usageLivesUptoRow : OpenClaim := { program := "ytmgmjcjpmfdboaa", sum := "fb4996a9cf650999c670f3dd5c8db1a713356764514f45db8b98df153b2c1537", func := "keelson/keelsonlaw12.UsageLives", spec := "usageLives", unfollowed := true, recurses := true, apart := false, narrowed := true }
def UsageLivesUptoSaid : Prop := usageLivesUptoRow.holds Try.pinned (OpenSpec.upto usageLivesSpec)

/-- 'keelsonlaw12.UsageStates', WHERE WHAT IT READS IS OF BULK AT MOST 1048576: true; the input reads as it did. -/
def usageStatesUptoRow : OpenClaim := { program := "ytmgmjcjpmfdboaa", sum := "fb4996a9cf650999c670f3dd5c8db1a713356764514f45db8b98df153b2c1537", func := "keelson/keelsonlaw12.UsageStates", spec := "usageStates", unfollowed := true, recurses := true, apart := false, narrowed := true }
def UsageStatesUptoSaid : Prop := usageStatesUptoRow.holds Try.pinned (OpenSpec.upto usageStatesSpec)

/-- 'keelsonlaw12.UsagePlays', WHERE WHAT IT READS IS OF BULK AT MOST 1048576: true; the input reads as it did. -/
def usagePlaysUptoRow : OpenClaim := { program := "ytmgmjcjpmfdboaa", sum := "fb4996a9cf650999c670f3dd5c8db1a713356764514f45db8b98df153b2c1537", func := "keelson/keelsonlaw12.UsagePlays", spec := "usagePlays", unfollowed := true, recurses := true, apart := false, narrowed := true }
def UsagePlaysUptoSaid : Prop := usagePlaysUptoRow.holds Try.pinned (OpenSpec.upto usagePlaysSpec)

end Rows
end Go.Proofs.Ytmgmjcjpmfdboaa
