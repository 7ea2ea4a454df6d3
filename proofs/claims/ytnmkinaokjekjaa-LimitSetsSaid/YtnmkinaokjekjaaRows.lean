/-
  No cell of these rows narrows 'for every input' (looked for: loops, veiled, ifaces, maps, wideKeys, modest, calm, conditions, laid).
  DERIVED. THE GIVEN ROWS OF THIS SEAT. 4 by the template 'for every input the law returns true; each argument reads behind the call as it read before'; 0 by the template 'total and deterministic' (their statements: YtnmkinaokjekjaaTotals.lean).
  GIVEN WITH THE SEED: the statements are not yours to turn. If you find one false, say at which input.
  Laid BY PROGRAM, IN A SANDBOX (cutbox-rows.mjs): the forced cells as the released guide's own fill.sh prints them over the translation a3c6857572e9407b… (all of the seat's roots in one cut). By AI agents, Wed Nov 11 2026. No macro, syntax, notation, axiom, sorry.
-/
import Derived.Test.YtnmkinaokjekjaaChecked
import GoSem.Claim
import GoSem.ClaimJoined
import GoSem.ClaimMapViews
import Derived.JoinedTies
import Derived.KernelRfl
namespace Go.Proofs.Ytnmkinaokjekjaa
/- THE CELL 'sum', in the pinned program and in every row, IS THE sha256 OF THE DUMP (.gsa) THAT YtnmkinaokjekjaaProg.lean LOADS. Nothing in Lean hashes anything: it is a label: what it is worth is what the hold of that sum in a sandbox is worth. -/
noncomputable def Try.pinned : Pinned := { name := "ytnmkinaokjekjaa", sum := "a3c6857572e9407bf9796e9ede8defb997e171bcdbef3e541a885bd1bcb35049", checked := Try.checked }
namespace Rows
def none {H : Type} : Left H := { results := [], args := [] }

/-- 'coverabilitylaw08.LimitSplits': WHATEVER THE INPUT: true; the input reads as it did. -/
def limitSplitsSpec : ChangeSpec := { name := "limitSplits", fn := fun _ => fun
  | [d] => { results := [.lit (.bool true)], args := [d] }
  | _ => none }
def limitSplitsRow : OpenClaim := { program := "ytnmkinaokjekjaa", sum := "a3c6857572e9407bf9796e9ede8defb997e171bcdbef3e541a885bd1bcb35049", func := "coverability/coverabilitylaw08.LimitSplits", spec := "limitSplits", unfollowed := true, recurses := true, apart := false }
def LimitSplitsSaid : Prop := limitSplitsRow.holds Try.pinned (OpenSpec.ofChange limitSplitsSpec)

/-- ITS FALSE NEIGHBOUR: 'it returns false'. Refute it at one input. -/
def limitSplitsWrong : ChangeSpec := { name := "limitSplits", fn := fun _ => fun
  | [d] => { results := [.lit (.bool false)], args := [d] }
  | _ => none }
def LimitSplitsWrongFalsely : Prop := limitSplitsRow.holds Try.pinned (OpenSpec.ofChange limitSplitsWrong)

/-- 'coverabilitylaw08.LimitBack': WHATEVER THE INPUT: true; the input reads as it did. -/
def limitBackSpec : ChangeSpec := { name := "limitBack", fn := fun _ => fun
  | [d] => { results := [.lit (.bool true)], args := [d] }
  | _ => none }
def limitBackRow : OpenClaim := { program := "ytnmkinaokjekjaa", sum := "a3c6857572e9407bf9796e9ede8defb997e171bcdbef3e541a885bd1bcb35049", func := "coverability/coverabilitylaw08.LimitBack", spec := "limitBack", unfollowed := true, recurses := true, apart := false }
def LimitBackSaid : Prop := limitBackRow.holds Try.pinned (OpenSpec.ofChange limitBackSpec)

/-- ITS FALSE NEIGHBOUR: 'it returns false'. Refute it at one input. -/
def limitBackWrong : ChangeSpec := { name := "limitBack", fn := fun _ => fun
  | [d] => { results := [.lit (.bool false)], args := [d] }
  | _ => none }
def LimitBackWrongFalsely : Prop := limitBackRow.holds Try.pinned (OpenSpec.ofChange limitBackWrong)

/-- 'coverabilitylaw08.LimitMaximal': WHATEVER THE INPUT: true; the input reads as it did. -/
def limitMaximalSpec : ChangeSpec := { name := "limitMaximal", fn := fun _ => fun
  | [d] => { results := [.lit (.bool true)], args := [d] }
  | _ => none }
def limitMaximalRow : OpenClaim := { program := "ytnmkinaokjekjaa", sum := "a3c6857572e9407bf9796e9ede8defb997e171bcdbef3e541a885bd1bcb35049", func := "coverability/coverabilitylaw08.LimitMaximal", spec := "limitMaximal", unfollowed := true, recurses := true, apart := false }
def LimitMaximalSaid : Prop := limitMaximalRow.holds Try.pinned (OpenSpec.ofChange limitMaximalSpec)

/-- ITS FALSE NEIGHBOUR: 'it returns false'. Refute it at one input. -/
def limitMaximalWrong : ChangeSpec := { name := "limitMaximal", fn := fun _ => fun
  | [d] => { results := [.lit (.bool false)], args := [d] }
  | _ => none }
def LimitMaximalWrongFalsely : Prop := limitMaximalRow.holds Try.pinned (OpenSpec.ofChange limitMaximalWrong)

/-- 'coverabilitylaw08.LimitSets': WHATEVER THE INPUT: true; the input reads as it did. -/
def limitSetsSpec : ChangeSpec := { name := "limitSets", fn := fun _ => fun
  | [d] => { results := [.lit (.bool true)], args := [d] }
  | _ => none }
def limitSetsRow : OpenClaim := { program := "ytnmkinaokjekjaa", sum := "a3c6857572e9407bf9796e9ede8defb997e171bcdbef3e541a885bd1bcb35049", func := "coverability/coverabilitylaw08.LimitSets", spec := "limitSets", unfollowed := true, recurses := true, apart := false }
def LimitSetsSaid : Prop := limitSetsRow.holds Try.pinned (OpenSpec.ofChange limitSetsSpec)

/-- ITS FALSE NEIGHBOUR: 'it returns false'. Refute it at one input. -/
def limitSetsWrong : ChangeSpec := { name := "limitSets", fn := fun _ => fun
  | [d] => { results := [.lit (.bool false)], args := [d] }
  | _ => none }
def LimitSetsWrongFalsely : Prop := limitSetsRow.holds Try.pinned (OpenSpec.ofChange limitSetsWrong)

/- THE SECOND FORM. 'bulk': how many values and letters a reading holds, each counted each time it is reached (what is shared counts as often as it is met; a slice's spare places count too). A statement '..UptoSaid' is the law's where the arguments, and the package variables that the reading takes, are together of bulk at most 1048576: NARROWER than '..Said'. Prove '..Said' where nothing that the law and all that it calls make is longer than what came in: it says more and counts as full. Else prove '..UptoSaid'. A law counts once. -/
mutual
def uptoBulk {H : Type} : DataW H → Nat
  | .lit (.string bytes) => bytes.length + 1
  | .lit _ => 1
  | .nil => 1
  | .ptr d => uptoBulk d + 1
  | .slice elems spare => uptoBulkAll elems + uptoBulkAll spare + 1
  | .agg parts => uptoBulkAll parts + 1
  | .iface _ d => uptoBulk d + 1
  | .map entries => uptoBulkEntries entries + 1
  | .held _ => 1
def uptoBulkAll {H : Type} : List (DataW H) → Nat
  | [] => 0
  | d :: r => uptoBulk d + uptoBulkAll r
def uptoBulkEntries {H : Type} : List (Lit × DataW H) → Nat
  | [] => 0
  | x :: r => uptoBulkEntry x + uptoBulkEntries r
def uptoBulkEntry {H : Type} : Lit × DataW H → Nat
  | (.string bytes, d) => bytes.length + uptoBulk d + 1
  | (_, d) => uptoBulk d + 1
 end
def uptoSmall : (H : Type) → List (DataW H) → Bool := fun _ ds => decide (uptoBulkAll ds ≤ 1048576)
def OpenSpec.upto (s : _root_.Go.ChangeSpec) : _root_.Go.OpenSpec := { _root_.Go.OpenSpec.ofChange s with cond := some uptoSmall }

/-- 'coverabilitylaw08.LimitSplits', WHERE WHAT IT READS IS OF BULK AT MOST 1048576: true; the input reads as it did. -/
def limitSplitsUptoRow : OpenClaim := { program := "ytnmkinaokjekjaa", sum := "a3c6857572e9407bf9796e9ede8defb997e171bcdbef3e541a885bd1bcb35049", func := "coverability/coverabilitylaw08.LimitSplits", spec := "limitSplits", unfollowed := true, recurses := true, apart := false, narrowed := true }
def LimitSplitsUptoSaid : Prop := limitSplitsUptoRow.holds Try.pinned (OpenSpec.upto limitSplitsSpec)

/-- 'coverabilitylaw08.LimitBack', WHERE WHAT IT READS IS OF BULK AT MOST 1048576: true; the input reads as it did. -/
def limitBackUptoRow : OpenClaim := { program := "ytnmkinaokjekjaa", sum := "a3c6857572e9407bf9796e9ede8defb997e171bcdbef3e541a885bd1bcb35049", func := "coverability/coverabilitylaw08.LimitBack", spec := "limitBack", unfollowed := true, recurses := true, apart := false, narrowed := true }
def LimitBackUptoSaid : Prop := limitBackUptoRow.holds Try.pinned (OpenSpec.upto limitBackSpec)

/-- 'coverabilitylaw08.LimitMaximal', WHERE WHAT IT READS IS OF BULK AT MOST 1048576: true; the input reads as it did. -/
def limitMaximalUptoRow : OpenClaim := { program := "ytnmkinaokjekjaa", sum := "a3c6857572e9407bf9796e9ede8defb997e171bcdbef3e541a885bd1bcb35049", func := "coverability/coverabilitylaw08.LimitMaximal", spec := "limitMaximal", unfollowed := true, recurses := true, apart := false, narrowed := true }
def LimitMaximalUptoSaid : Prop := limitMaximalUptoRow.holds Try.pinned (OpenSpec.upto limitMaximalSpec)

/-- 'coverabilitylaw08.LimitSets', WHERE WHAT IT READS IS OF BULK AT MOST 1048576: true; the input reads as it did. -/
def limitSetsUptoRow : OpenClaim := { program := "ytnmkinaokjekjaa", sum := "a3c6857572e9407bf9796e9ede8defb997e171bcdbef3e541a885bd1bcb35049", func := "coverability/coverabilitylaw08.LimitSets", spec := "limitSets", unfollowed := true, recurses := true, apart := false, narrowed := true }
def LimitSetsUptoSaid : Prop := limitSetsUptoRow.holds Try.pinned (OpenSpec.upto limitSetsSpec)

end Rows
end Go.Proofs.Ytnmkinaokjekjaa
