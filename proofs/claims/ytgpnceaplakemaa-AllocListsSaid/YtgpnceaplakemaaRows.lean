/-
  No cell of these rows narrows 'for every input' (looked for: loops, veiled, ifaces, maps, wideKeys, modest, calm, conditions, laid).
  DERIVED. THE GIVEN ROWS OF THIS SEAT. 8 by the template 'for every input the law returns true; each argument reads behind the call as it read before'; 0 by the template 'total and deterministic' (their statements: YtgpnceaplakemaaTotals.lean).
  GIVEN WITH THE SEED: the statements are not yours to turn. If you find one false, say at which input.
  Laid BY PROGRAM, IN A SANDBOX (cutbox-rows.mjs): the forced cells as the released guide's own fill.sh prints them over the translation 6d17cd64ae67c869… (all of the seat's roots in one cut). By AI agents, Wed Nov 11 2026. No macro, syntax, notation, axiom, sorry.
-/
import Derived.Test.YtgpnceaplakemaaChecked
import GoSem.Claim
import GoSem.ClaimJoined
import GoSem.ClaimMapViews
import Derived.JoinedTies
import Derived.KernelRfl
namespace Go.Proofs.Ytgpnceaplakemaa
/- THE CELL 'sum', in the pinned program and in every row, IS THE sha256 OF THE DUMP (.gsa) THAT YtgpnceaplakemaaProg.lean LOADS. Nothing in Lean hashes anything: it is a label: what it is worth is what the hold of that sum in a sandbox is worth. -/
noncomputable def Try.pinned : Pinned := { name := "ytgpnceaplakemaa", sum := "6d17cd64ae67c8695574093d181cdfce4a96a5e9c62b0e1a5d4c6d83388778b8", checked := Try.checked }
namespace Rows
def none {H : Type} : Left H := { results := [], args := [] }

/-- 'umbellaw05.QueuePlays': WHATEVER THE INPUT: true; the input reads as it did. -/
def queuePlaysSpec : ChangeSpec := { name := "queuePlays", fn := fun _ => fun
  | [d1, d2] => { results := [.lit (.bool true)], args := [d1, d2] }
  | _ => none }
def queuePlaysRow : OpenClaim := { program := "ytgpnceaplakemaa", sum := "6d17cd64ae67c8695574093d181cdfce4a96a5e9c62b0e1a5d4c6d83388778b8", func := "umbel/umbellaw05.QueuePlays", spec := "queuePlays", unfollowed := true, recurses := true, apart := false }
def QueuePlaysSaid : Prop := queuePlaysRow.holds Try.pinned (OpenSpec.ofChange queuePlaysSpec)

/-- ITS FALSE NEIGHBOUR: 'it returns false'. Refute it at one input. -/
def queuePlaysWrong : ChangeSpec := { name := "queuePlays", fn := fun _ => fun
  | [d1, d2] => { results := [.lit (.bool false)], args := [d1, d2] }
  | _ => none }
def QueuePlaysWrongFalsely : Prop := queuePlaysRow.holds Try.pinned (OpenSpec.ofChange queuePlaysWrong)

/-- 'umbellaw05.QueueRises': WHATEVER THE INPUT: true; the input reads as it did. -/
def queueRisesSpec : ChangeSpec := { name := "queueRises", fn := fun _ => fun
  | [d] => { results := [.lit (.bool true)], args := [d] }
  | _ => none }
def queueRisesRow : OpenClaim := { program := "ytgpnceaplakemaa", sum := "6d17cd64ae67c8695574093d181cdfce4a96a5e9c62b0e1a5d4c6d83388778b8", func := "umbel/umbellaw05.QueueRises", spec := "queueRises", unfollowed := true, recurses := true, apart := false }
def QueueRisesSaid : Prop := queueRisesRow.holds Try.pinned (OpenSpec.ofChange queueRisesSpec)

/-- ITS FALSE NEIGHBOUR: 'it returns false'. Refute it at one input. -/
def queueRisesWrong : ChangeSpec := { name := "queueRises", fn := fun _ => fun
  | [d] => { results := [.lit (.bool false)], args := [d] }
  | _ => none }
def QueueRisesWrongFalsely : Prop := queueRisesRow.holds Try.pinned (OpenSpec.ofChange queueRisesWrong)

/-- 'umbellaw05.QueueBoth': WHATEVER THE INPUT: true; the input reads as it did. -/
def queueBothSpec : ChangeSpec := { name := "queueBoth", fn := fun _ => fun
  | [d1, d2] => { results := [.lit (.bool true)], args := [d1, d2] }
  | _ => none }
def queueBothRow : OpenClaim := { program := "ytgpnceaplakemaa", sum := "6d17cd64ae67c8695574093d181cdfce4a96a5e9c62b0e1a5d4c6d83388778b8", func := "umbel/umbellaw05.QueueBoth", spec := "queueBoth", unfollowed := true, recurses := true, apart := false }
def QueueBothSaid : Prop := queueBothRow.holds Try.pinned (OpenSpec.ofChange queueBothSpec)

/-- ITS FALSE NEIGHBOUR: 'it returns false'. Refute it at one input. -/
def queueBothWrong : ChangeSpec := { name := "queueBoth", fn := fun _ => fun
  | [d1, d2] => { results := [.lit (.bool false)], args := [d1, d2] }
  | _ => none }
def QueueBothWrongFalsely : Prop := queueBothRow.holds Try.pinned (OpenSpec.ofChange queueBothWrong)

/-- 'umbellaw25.AllocTells': WHATEVER THE INPUT: true; the input reads as it did. -/
def allocTellsSpec : ChangeSpec := { name := "allocTells", fn := fun _ => fun
  | [d1, d2, d3] => { results := [.lit (.bool true)], args := [d1, d2, d3] }
  | _ => none }
def allocTellsRow : OpenClaim := { program := "ytgpnceaplakemaa", sum := "6d17cd64ae67c8695574093d181cdfce4a96a5e9c62b0e1a5d4c6d83388778b8", func := "umbel/umbellaw25.AllocTells", spec := "allocTells", unfollowed := true, recurses := true, apart := false }
def AllocTellsSaid : Prop := allocTellsRow.holds Try.pinned (OpenSpec.ofChange allocTellsSpec)

/-- ITS FALSE NEIGHBOUR: 'it returns false'. Refute it at one input. -/
def allocTellsWrong : ChangeSpec := { name := "allocTells", fn := fun _ => fun
  | [d1, d2, d3] => { results := [.lit (.bool false)], args := [d1, d2, d3] }
  | _ => none }
def AllocTellsWrongFalsely : Prop := allocTellsRow.holds Try.pinned (OpenSpec.ofChange allocTellsWrong)

/-- 'umbellaw25.AllocOnce': WHATEVER THE INPUT: true; the input reads as it did. -/
def allocOnceSpec : ChangeSpec := { name := "allocOnce", fn := fun _ => fun
  | [d1, d2, d3] => { results := [.lit (.bool true)], args := [d1, d2, d3] }
  | _ => none }
def allocOnceRow : OpenClaim := { program := "ytgpnceaplakemaa", sum := "6d17cd64ae67c8695574093d181cdfce4a96a5e9c62b0e1a5d4c6d83388778b8", func := "umbel/umbellaw25.AllocOnce", spec := "allocOnce", unfollowed := true, recurses := true, apart := false }
def AllocOnceSaid : Prop := allocOnceRow.holds Try.pinned (OpenSpec.ofChange allocOnceSpec)

/-- ITS FALSE NEIGHBOUR: 'it returns false'. Refute it at one input. -/
def allocOnceWrong : ChangeSpec := { name := "allocOnce", fn := fun _ => fun
  | [d1, d2, d3] => { results := [.lit (.bool false)], args := [d1, d2, d3] }
  | _ => none }
def AllocOnceWrongFalsely : Prop := allocOnceRow.holds Try.pinned (OpenSpec.ofChange allocOnceWrong)

/-- 'umbellaw25.AllocLists': WHATEVER THE INPUT: true; the input reads as it did. -/
def allocListsSpec : ChangeSpec := { name := "allocLists", fn := fun _ => fun
  | [d1, d2] => { results := [.lit (.bool true)], args := [d1, d2] }
  | _ => none }
def allocListsRow : OpenClaim := { program := "ytgpnceaplakemaa", sum := "6d17cd64ae67c8695574093d181cdfce4a96a5e9c62b0e1a5d4c6d83388778b8", func := "umbel/umbellaw25.AllocLists", spec := "allocLists", unfollowed := true, recurses := true, apart := false }
def AllocListsSaid : Prop := allocListsRow.holds Try.pinned (OpenSpec.ofChange allocListsSpec)

/-- ITS FALSE NEIGHBOUR: 'it returns false'. Refute it at one input. -/
def allocListsWrong : ChangeSpec := { name := "allocLists", fn := fun _ => fun
  | [d1, d2] => { results := [.lit (.bool false)], args := [d1, d2] }
  | _ => none }
def AllocListsWrongFalsely : Prop := allocListsRow.holds Try.pinned (OpenSpec.ofChange allocListsWrong)

/-- 'umbellaw25.AllocGrows': WHATEVER THE INPUT: true; the input reads as it did. -/
def allocGrowsSpec : ChangeSpec := { name := "allocGrows", fn := fun _ => fun
  | [d1, d2, d3] => { results := [.lit (.bool true)], args := [d1, d2, d3] }
  | _ => none }
def allocGrowsRow : OpenClaim := { program := "ytgpnceaplakemaa", sum := "6d17cd64ae67c8695574093d181cdfce4a96a5e9c62b0e1a5d4c6d83388778b8", func := "umbel/umbellaw25.AllocGrows", spec := "allocGrows", unfollowed := true, recurses := true, apart := false }
def AllocGrowsSaid : Prop := allocGrowsRow.holds Try.pinned (OpenSpec.ofChange allocGrowsSpec)

/-- ITS FALSE NEIGHBOUR: 'it returns false'. Refute it at one input. -/
def allocGrowsWrong : ChangeSpec := { name := "allocGrows", fn := fun _ => fun
  | [d1, d2, d3] => { results := [.lit (.bool false)], args := [d1, d2, d3] }
  | _ => none }
def AllocGrowsWrongFalsely : Prop := allocGrowsRow.holds Try.pinned (OpenSpec.ofChange allocGrowsWrong)

/-- 'umbellaw25.AllocLeast': WHATEVER THE INPUT: true; the input reads as it did. -/
def allocLeastSpec : ChangeSpec := { name := "allocLeast", fn := fun _ => fun
  | [d1, d2] => { results := [.lit (.bool true)], args := [d1, d2] }
  | _ => none }
def allocLeastRow : OpenClaim := { program := "ytgpnceaplakemaa", sum := "6d17cd64ae67c8695574093d181cdfce4a96a5e9c62b0e1a5d4c6d83388778b8", func := "umbel/umbellaw25.AllocLeast", spec := "allocLeast", unfollowed := true, recurses := true, apart := false }
def AllocLeastSaid : Prop := allocLeastRow.holds Try.pinned (OpenSpec.ofChange allocLeastSpec)

/-- ITS FALSE NEIGHBOUR: 'it returns false'. Refute it at one input. -/
def allocLeastWrong : ChangeSpec := { name := "allocLeast", fn := fun _ => fun
  | [d1, d2] => { results := [.lit (.bool false)], args := [d1, d2] }
  | _ => none }
def AllocLeastWrongFalsely : Prop := allocLeastRow.holds Try.pinned (OpenSpec.ofChange allocLeastWrong)

/- THE SECOND FORM. 'bulk': how many values and letters a reading holds, each counted each time it is reached (what is shared counts as often as it is met; a slice's spare places count too). A statement '..UptoSaid' is the law's where the arguments, and the package variables that the reading takes, are together of bulk at most 1048576: NARROWER than '..Said'. Prove '..Said' where nothing that the law and all that it calls make is longer than what came in: it says more and counts as full. Else prove '..UptoSaid'. A law counts once. -/
mutual
def uptoBulk {H : Type} : DataW H → Nat
  | .lit (.string bytes) => bytes.length + 1
  | .lit _ => 1
  | .nil => 1
  | .ptr d => uptoBulk d + 1
  | .slice elems spare => uptoBulkAll elems + uptoBulkAll spare + 1
  | .agg parts => uptoBulkAll parts + 1
  | .iface _ d => uptoBulk d + 1
  | .map entries => uptoBulkEntries entries + 1
  | .held _ => 1
def uptoBulkAll {H : Type} : List (DataW H) → Nat
  | [] => 0
  | d :: r => uptoBulk d + uptoBulkAll r
def uptoBulkEntries {H : Type} : List (Lit × DataW H) → Nat
  | [] => 0
  | x :: r => uptoBulkEntry x + uptoBulkEntries r
def uptoBulkEntry {H : Type} : Lit × DataW H → Nat
  | (.string bytes, d) => bytes.length + uptoBulk d + 1
  | (_, d) => uptoBulk d + 1
 end
def uptoSmall : (H : Type) → List (DataW H) → Bool := fun _ ds => decide (uptoBulkAll ds ≤ 1048576)
def OpenSpec.upto (s : _root_.Go.ChangeSpec) : _root_.Go.OpenSpec := { _root_.Go.OpenSpec.ofChange s with cond := some uptoSmall }

/-- 'umbellaw05.QueuePlays', WHERE WHAT IT READS IS OF BULK AT MOST 1048576: true; the input reads as it did. -/
def queuePlaysUptoRow : OpenClaim := { program := "ytgpnceaplakemaa", sum := "6d17cd64ae67c8695574093d181cdfce4a96a5e9c62b0e1a5d4c6d83388778b8", func := "umbel/umbellaw05.QueuePlays", spec := "queuePlays", unfollowed := true, recurses := true, apart := false, narrowed := true }
def QueuePlaysUptoSaid : Prop := queuePlaysUptoRow.holds Try.pinned (OpenSpec.upto queuePlaysSpec)

/-- 'umbellaw05.QueueRises', WHERE WHAT IT READS IS OF BULK AT MOST 1048576: true; the input reads as it did. -/
def queueRisesUptoRow : OpenClaim := { program := "ytgpnceaplakemaa", sum := "6d17cd64ae67c8695574093d181cdfce4a96a5e9c62b0e1a5d4c6d83388778b8", func := "umbel/umbellaw05.QueueRises", spec := "queueRises", unfollowed := true, recurses := true, apart := false, narrowed := true }
def QueueRisesUptoSaid : Prop := queueRisesUptoRow.holds Try.pinned (OpenSpec.upto queueRisesSpec)

/-- 'umbellaw05.QueueBoth', WHERE WHAT IT READS IS OF BULK AT MOST 1048576: true; the input reads as it did. -/
def queueBothUptoRow : OpenClaim := { program := "ytgpnceaplakemaa", sum := "6d17cd64ae67c8695574093d181cdfce4a96a5e9c62b0e1a5d4c6d83388778b8", func := "umbel/umbellaw05.QueueBoth", spec := "queueBoth", unfollowed := true, recurses := true, apart := false, narrowed := true }
def QueueBothUptoSaid : Prop := queueBothUptoRow.holds Try.pinned (OpenSpec.upto queueBothSpec)

/-- 'umbellaw25.AllocTells', WHERE WHAT IT READS IS OF BULK AT MOST 1048576: true; the input reads as it did. -/
def allocTellsUptoRow : OpenClaim := { program := "ytgpnceaplakemaa", sum := "6d17cd64ae67c8695574093d181cdfce4a96a5e9c62b0e1a5d4c6d83388778b8", func := "umbel/umbellaw25.AllocTells", spec := "allocTells", unfollowed := true, recurses := true, apart := false, narrowed := true }
def AllocTellsUptoSaid : Prop := allocTellsUptoRow.holds Try.pinned (OpenSpec.upto allocTellsSpec)

/-- 'umbellaw25.AllocOnce', WHERE WHAT IT READS IS OF BULK AT MOST 1048576: true; the input reads as it did. -/
def allocOnceUptoRow : OpenClaim := { program := "ytgpnceaplakemaa", sum := "6d17cd64ae67c8695574093d181cdfce4a96a5e9c62b0e1a5d4c6d83388778b8", func := "umbel/umbellaw25.AllocOnce", spec := "allocOnce", unfollowed := true, recurses := true, apart := false, narrowed := true }
def AllocOnceUptoSaid : Prop := allocOnceUptoRow.holds Try.pinned (OpenSpec.upto allocOnceSpec)

/-- 'umbellaw25.AllocLists', WHERE WHAT IT READS IS OF BULK AT MOST 1048576: true; the input reads as it did. -/
def allocListsUptoRow : OpenClaim := { program := "ytgpnceaplakemaa", sum := "6d17cd64ae67c8695574093d181cdfce4a96a5e9c62b0e1a5d4c6d83388778b8", func := "umbel/umbellaw25.AllocLists", spec := "allocLists", unfollowed := true, recurses := true, apart := false, narrowed := true }
def AllocListsUptoSaid : Prop := allocListsUptoRow.holds Try.pinned (OpenSpec.upto allocListsSpec)

/-- 'umbellaw25.AllocGrows', WHERE WHAT IT READS IS OF BULK AT MOST 1048576: true; the input reads as it did. -/
def allocGrowsUptoRow : OpenClaim := { program := "ytgpnceaplakemaa", sum := "6d17cd64ae67c8695574093d181cdfce4a96a5e9c62b0e1a5d4c6d83388778b8", func := "umbel/umbellaw25.AllocGrows", spec := "allocGrows", unfollowed := true, recurses := true, apart := false, narrowed := true }
def AllocGrowsUptoSaid : Prop := allocGrowsUptoRow.holds Try.pinned (OpenSpec.upto allocGrowsSpec)

/-- 'umbellaw25.AllocLeast', WHERE WHAT IT READS IS OF BULK AT MOST 1048576: true; the input reads as it did. -/
def allocLeastUptoRow : OpenClaim := { program := "ytgpnceaplakemaa", sum := "6d17cd64ae67c8695574093d181cdfce4a96a5e9c62b0e1a5d4c6d83388778b8", func := "umbel/umbellaw25.AllocLeast", spec := "allocLeast", unfollowed := true, recurses := true, apart := false, narrowed := true }
def AllocLeastUptoSaid : Prop := allocLeastUptoRow.holds Try.pinned (OpenSpec.upto allocLeastSpec)

end Rows
end Go.Proofs.Ytgpnceaplakemaa
