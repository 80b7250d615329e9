/-
  No cell of these rows narrows 'for every input' (looked for: loops, veiled, ifaces, maps, wideKeys, modest, calm, conditions, laid).
  DERIVED. THE GIVEN ROWS OF THIS SEAT. 4 by the template 'for every input the law returns true; each argument reads behind the call as it read before'; 0 by the template 'total and deterministic' (their statements: YtgnnfafidhfhfaaTotals.lean).
  GIVEN WITH THE SEED: the statements are not yours to turn. If you find one false, say at which input.
  Laid BY PROGRAM, IN A SANDBOX (cutbox-rows.mjs): the forced cells as the released guide's own fill.sh prints them over the translation ab6acf6b9396a423… (all of the seat's roots in one cut). By AI agents, Wed Nov 11 2026. No macro, syntax, notation, axiom, sorry.
-/
import Derived.Test.YtgnnfafidhfhfaaChecked
import GoSem.Claim
import GoSem.ClaimJoined
import GoSem.ClaimMapViews
import Derived.JoinedTies
import Derived.KernelRfl
namespace Go.Proofs.Ytgnnfafidhfhfaa
/- THE CELL 'sum', in the pinned program and in every row, IS THE sha256 OF THE DUMP (.gsa) THAT YtgnnfafidhfhfaaProg.lean LOADS. Nothing in Lean hashes anything: it is a label: what it is worth is what the hold of that sum in a sandbox is worth. -/
noncomputable def Try.pinned : Pinned := { name := "ytgnnfafidhfhfaa", sum := "ab6acf6b9396a423b8f148cb3c00024083662e7db2300e6172d04a6416f07799", checked := Try.checked }
namespace Rows
def none {H : Type} : Left H := { results := [], args := [] }

/-- 'keelsonlaw11.PagedDirty': WHATEVER THE INPUT: true; the input reads as it did. -/
def pagedDirtySpec : ChangeSpec := { name := "pagedDirty", fn := fun _ => fun
  | [d1, d2, d3] => { results := [.lit (.bool true)], args := [d1, d2, d3] }
  | _ => none }
def pagedDirtyRow : OpenClaim := { program := "ytgnnfafidhfhfaa", sum := "ab6acf6b9396a423b8f148cb3c00024083662e7db2300e6172d04a6416f07799", func := "keelson/keelsonlaw11.PagedDirty", spec := "pagedDirty", unfollowed := true, recurses := true, apart := false }
def PagedDirtySaid : Prop := pagedDirtyRow.holds Try.pinned (OpenSpec.ofChange pagedDirtySpec)

/-- ITS FALSE NEIGHBOUR: 'it returns false'. Refute it at one input. -/
def pagedDirtyWrong : ChangeSpec := { name := "pagedDirty", fn := fun _ => fun
  | [d1, d2, d3] => { results := [.lit (.bool false)], args := [d1, d2, d3] }
  | _ => none }
def PagedDirtyWrongFalsely : Prop := pagedDirtyRow.holds Try.pinned (OpenSpec.ofChange pagedDirtyWrong)

/-- 'keelsonlaw11.PagedTexts': WHATEVER THE INPUT: true; the input reads as it did. -/
def pagedTextsSpec : ChangeSpec := { name := "pagedTexts", fn := fun _ => fun
  | [d1, d2, d3] => { results := [.lit (.bool true)], args := [d1, d2, d3] }
  | _ => none }
def pagedTextsRow : OpenClaim := { program := "ytgnnfafidhfhfaa", sum := "ab6acf6b9396a423b8f148cb3c00024083662e7db2300e6172d04a6416f07799", func := "keelson/keelsonlaw11.PagedTexts", spec := "pagedTexts", unfollowed := true, recurses := true, apart := false }
def PagedTextsSaid : Prop := pagedTextsRow.holds Try.pinned (OpenSpec.ofChange pagedTextsSpec)

/-- ITS FALSE NEIGHBOUR: 'it returns false'. Refute it at one input. -/
def pagedTextsWrong : ChangeSpec := { name := "pagedTexts", fn := fun _ => fun
  | [d1, d2, d3] => { results := [.lit (.bool false)], args := [d1, d2, d3] }
  | _ => none }
def PagedTextsWrongFalsely : Prop := pagedTextsRow.holds Try.pinned (OpenSpec.ofChange pagedTextsWrong)

/-- 'keelsonlaw11.PagedPages': WHATEVER THE INPUT: true; the input reads as it did. -/
def pagedPagesSpec : ChangeSpec := { name := "pagedPages", fn := fun _ => fun
  | [d1, d2, d3] => { results := [.lit (.bool true)], args := [d1, d2, d3] }
  | _ => none }
def pagedPagesRow : OpenClaim := { program := "ytgnnfafidhfhfaa", sum := "ab6acf6b9396a423b8f148cb3c00024083662e7db2300e6172d04a6416f07799", func := "keelson/keelsonlaw11.PagedPages", spec := "pagedPages", unfollowed := true, recurses := true, apart := false }
def PagedPagesSaid : Prop := pagedPagesRow.holds Try.pinned (OpenSpec.ofChange pagedPagesSpec)

/-- ITS FALSE NEIGHBOUR: 'it returns false'. Refute it at one input. -/
def pagedPagesWrong : ChangeSpec := { name := "pagedPages", fn := fun _ => fun
  | [d1, d2, d3] => { results := [.lit (.bool false)], args := [d1, d2, d3] }
  | _ => none }
def PagedPagesWrongFalsely : Prop := pagedPagesRow.holds Try.pinned (OpenSpec.ofChange pagedPagesWrong)

/-- 'keelsonlaw11.PagedPlays': WHATEVER THE INPUT: true; the input reads as it did. -/
def pagedPlaysSpec : ChangeSpec := { name := "pagedPlays", fn := fun _ => fun
  | [d1, d2, d3, d4] => { results := [.lit (.bool true)], args := [d1, d2, d3, d4] }
  | _ => none }
def pagedPlaysRow : OpenClaim := { program := "ytgnnfafidhfhfaa", sum := "ab6acf6b9396a423b8f148cb3c00024083662e7db2300e6172d04a6416f07799", func := "keelson/keelsonlaw11.PagedPlays", spec := "pagedPlays", unfollowed := true, recurses := true, apart := false }
def PagedPlaysSaid : Prop := pagedPlaysRow.holds Try.pinned (OpenSpec.ofChange pagedPlaysSpec)

/-- ITS FALSE NEIGHBOUR: 'it returns false'. Refute it at one input. -/
def pagedPlaysWrong : ChangeSpec := { name := "pagedPlays", fn := fun _ => fun
  | [d1, d2, d3, d4] => { results := [.lit (.bool false)], args := [d1, d2, d3, d4] }
  | _ => none }
def PagedPlaysWrongFalsely : Prop := pagedPlaysRow.holds Try.pinned (OpenSpec.ofChange pagedPlaysWrong)

/- THE SECOND FORM. 'bulk': how many values and letters a reading holds, each counted each time it is reached (what is shared counts as often as it is met; a slice's spare places count too). A statement '..UptoSaid' is the law's where the arguments, and the package variables that the reading takes, are together of bulk at most 1048576: NARROWER than '..Said'. Prove '..Said' where nothing that the law and all that it calls make is longer than what came in: it says more and counts as full. Else prove '..UptoSaid'. A law counts once. -/
mutual
def uptoBulk {H : Type} : DataW H → Nat
  | .lit (.string bytes) => bytes.length + 1
  | .lit _ => 1
  | .nil => 1
  | .ptr d => uptoBulk d + 1
  | .slice elems spare => uptoBulkAll elems + uptoBulkAll spare + 1
  | .agg parts => uptoBulkAll parts + 1
  | .iface _ d => uptoBulk d + 1
  | .map entries => uptoBulkEntries entries + 1
  | .held _ => 1
def uptoBulkAll {H : Type} : List (DataW H) → Nat
  | [] => 0
  | d :: r => uptoBulk d + uptoBulkAll r
def uptoBulkEntries {H : Type} : List (Lit × DataW H) → Nat
  | [] => 0
  | x :: r => uptoBulkEntry x + uptoBulkEntries r
def uptoBulkEntry {H : Type} : Lit × DataW H → Nat
  | (.string bytes, d) => bytes.length + uptoBulk d + 1
  | (_, d) => uptoBulk d + 1
 end
def uptoSmall : (H : Type) → List (DataW H) → Bool := fun _ ds => decide (uptoBulkAll ds ≤ 1048576)
def OpenSpec.upto (s : _root_.Go.ChangeSpec) : _root_.Go.OpenSpec := { _root_.Go.OpenSpec.ofChange s with cond := some uptoSmall }

/-- 'keelsonlaw11.PagedDirty', WHERE WHAT IT READS IS OF BULK AT MOST 1048576: true; the input reads as it did. -/
def pagedDirtyUptoRow : OpenClaim := { program := "ytgnnfafidhfhfaa", sum := "ab6acf6b9396a423b8f148cb3c00024083662e7db2300e6172d04a6416f07799", func := "keelson/keelsonlaw11.PagedDirty", spec := "pagedDirty", unfollowed := true, recurses := true, apart := false, narrowed := true }
def PagedDirtyUptoSaid : Prop := pagedDirtyUptoRow.holds Try.pinned (OpenSpec.upto pagedDirtySpec)

/-- 'keelsonlaw11.PagedTexts', WHERE WHAT IT READS IS OF BULK AT MOST 1048576: true; the input reads as it did. -/
def pagedTextsUptoRow : OpenClaim := { program := "ytgnnfafidhfhfaa", sum := "ab6acf6b9396a423b8f148cb3c00024083662e7db2300e6172d04a6416f07799", func := "keelson/keelsonlaw11.PagedTexts", spec := "pagedTexts", unfollowed := true, recurses := true, apart := false, narrowed := true }
def PagedTextsUptoSaid : Prop := pagedTextsUptoRow.holds Try.pinned (OpenSpec.upto pagedTextsSpec)

/-- 'keelsonlaw11.PagedPages', WHERE WHAT IT READS IS OF BULK AT MOST 1048576: true; the input reads as it did. -/
def pagedPagesUptoRow : OpenClaim := { program := "ytgnnfafidhfhfaa", sum := "ab6acf6b9396a423b8f148cb3c00024083662e7db2300e6172d04a6416f07799", func := "keelson/keelsonlaw11.PagedPages", spec := "pagedPages", unfollowed := true, recurses := true, apart := false, narrowed := true }
def PagedPagesUptoSaid : Prop := pagedPagesUptoRow.holds Try.pinned (OpenSpec.upto pagedPagesSpec)

/-- 'keelsonlaw11.PagedPlays', WHERE WHAT IT READS IS OF BULK AT MOST 1048576: true; the input reads as it did. -/
def pagedPlaysUptoRow : OpenClaim := { program := "ytgnnfafidhfhfaa", sum := "ab6acf6b9396a423b8f148cb3c00024083662e7db2300e6172d04a6416f07799", func := "keelson/keelsonlaw11.PagedPlays", spec := "pagedPlays", unfollowed := true, recurses := true, apart := false, narrowed := true }
def PagedPlaysUptoSaid : Prop := pagedPlaysUptoRow.holds Try.pinned (OpenSpec.upto pagedPlaysSpec)

end Rows
end Go.Proofs.Ytgnnfafidhfhfaa
