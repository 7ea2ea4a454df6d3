/-
  NARROWER THAN 'FOR EVERY INPUT', by the rows' own cells (each row's printed sentence says how): NestedExact: loops.
  DERIVED. THE GIVEN ROWS OF THIS SEAT. 5 by the template 'for every input the law returns true; each argument reads behind the call as it read before'; 0 by the template 'total and deterministic' (their statements: YtpplncjaihgimaaGreatTotals.lean).
  GIVEN WITH THE SEED: the statements are not yours to turn. If you find one false, say at which input.
  Laid BY PROGRAM, IN A SANDBOX (cutbox-rows.mjs): the forced cells as the released guide's own fill.sh prints them over the translation c7082d067c5c4eec… (all of the seat's roots in one cut). By AI agents, Wed Nov 11 2026. No macro, syntax, notation, axiom, sorry.
-/
import Derived.Test.YtpplncjaihgimaaGreatChecked
import GoSem.Claim
import GoSem.ClaimJoined
import GoSem.ClaimMapViews
import Derived.JoinedTies
import Derived.KernelRfl
namespace Go.Proofs.YtpplncjaihgimaaGreat
/- THE CELL 'sum', in the pinned program and in every row, IS THE sha256 OF THE DUMP (.gsa) THAT YtpplncjaihgimaaGreatProg.lean LOADS. Nothing in Lean hashes anything: it is a label: what it is worth is what the hold of that sum in a sandbox is worth. -/
noncomputable def Tryz.pinned : Pinned := { name := "ytpplncjaihgimaagreat", sum := "c7082d067c5c4eecd1efd0551726d188934148574341f65aa6eb877ffd9343f0", checked := Tryz.checked }
namespace Rows
def none {H : Type} : Left H := { results := [], args := [] }

/-- 'coverabilitylaw19.NestedExact': WHATEVER THE INPUT: true; the input reads as it did. -/
def nestedExactSpec : ChangeSpec := { name := "nestedExact", fn := fun _ => fun
  | [d1, d2, d3, d4] => { results := [.lit (.bool true)], args := [d1, d2, d3, d4] }
  | _ => none }
def nestedExactRow : OpenClaim := { program := "ytpplncjaihgimaagreat", sum := "c7082d067c5c4eecd1efd0551726d188934148574341f65aa6eb877ffd9343f0", func := "coverability/coverabilitylaw19.NestedExact", spec := "nestedExact", unfollowed := true, recurses := true, loops := true, apart := false }
def NestedExactSaid : Prop := nestedExactRow.holds Tryz.pinned (OpenSpec.ofChange nestedExactSpec)

/-- ITS FALSE NEIGHBOUR: 'it returns false'. Refute it at one input. -/
def nestedExactWrong : ChangeSpec := { name := "nestedExact", fn := fun _ => fun
  | [d1, d2, d3, d4] => { results := [.lit (.bool false)], args := [d1, d2, d3, d4] }
  | _ => none }
def NestedExactWrongFalsely : Prop := nestedExactRow.holds Tryz.pinned (OpenSpec.ofChange nestedExactWrong)

/-- 'coverabilitylaw19.NestedGrows': WHATEVER THE INPUT: true; the input reads as it did. -/
def nestedGrowsSpec : ChangeSpec := { name := "nestedGrows", fn := fun _ => fun
  | [d] => { results := [.lit (.bool true)], args := [d] }
  | _ => none }
def nestedGrowsRow : OpenClaim := { program := "ytpplncjaihgimaagreat", sum := "c7082d067c5c4eecd1efd0551726d188934148574341f65aa6eb877ffd9343f0", func := "coverability/coverabilitylaw19.NestedGrows", spec := "nestedGrows", unfollowed := true, recurses := true, apart := false }
def NestedGrowsSaid : Prop := nestedGrowsRow.holds Tryz.pinned (OpenSpec.ofChange nestedGrowsSpec)

/-- ITS FALSE NEIGHBOUR: 'it returns false'. Refute it at one input. -/
def nestedGrowsWrong : ChangeSpec := { name := "nestedGrows", fn := fun _ => fun
  | [d] => { results := [.lit (.bool false)], args := [d] }
  | _ => none }
def NestedGrowsWrongFalsely : Prop := nestedGrowsRow.holds Tryz.pinned (OpenSpec.ofChange nestedGrowsWrong)

/-- 'coverabilitylaw19.NestedCounts': WHATEVER THE INPUT: true; the input reads as it did. -/
def nestedCountsSpec : ChangeSpec := { name := "nestedCounts", fn := fun _ => fun
  | [d] => { results := [.lit (.bool true)], args := [d] }
  | _ => none }
def nestedCountsRow : OpenClaim := { program := "ytpplncjaihgimaagreat", sum := "c7082d067c5c4eecd1efd0551726d188934148574341f65aa6eb877ffd9343f0", func := "coverability/coverabilitylaw19.NestedCounts", spec := "nestedCounts", unfollowed := true, recurses := true, apart := false }
def NestedCountsSaid : Prop := nestedCountsRow.holds Tryz.pinned (OpenSpec.ofChange nestedCountsSpec)

/-- ITS FALSE NEIGHBOUR: 'it returns false'. Refute it at one input. -/
def nestedCountsWrong : ChangeSpec := { name := "nestedCounts", fn := fun _ => fun
  | [d] => { results := [.lit (.bool false)], args := [d] }
  | _ => none }
def NestedCountsWrongFalsely : Prop := nestedCountsRow.holds Tryz.pinned (OpenSpec.ofChange nestedCountsWrong)

/-- 'coverabilitylaw19.NestedSizes': WHATEVER THE INPUT: true; the input reads as it did. -/
def nestedSizesSpec : ChangeSpec := { name := "nestedSizes", fn := fun _ => fun
  | [d] => { results := [.lit (.bool true)], args := [d] }
  | _ => none }
def nestedSizesRow : OpenClaim := { program := "ytpplncjaihgimaagreat", sum := "c7082d067c5c4eecd1efd0551726d188934148574341f65aa6eb877ffd9343f0", func := "coverability/coverabilitylaw19.NestedSizes", spec := "nestedSizes", unfollowed := true, recurses := true, apart := false }
def NestedSizesSaid : Prop := nestedSizesRow.holds Tryz.pinned (OpenSpec.ofChange nestedSizesSpec)

/-- ITS FALSE NEIGHBOUR: 'it returns false'. Refute it at one input. -/
def nestedSizesWrong : ChangeSpec := { name := "nestedSizes", fn := fun _ => fun
  | [d] => { results := [.lit (.bool false)], args := [d] }
  | _ => none }
def NestedSizesWrongFalsely : Prop := nestedSizesRow.holds Tryz.pinned (OpenSpec.ofChange nestedSizesWrong)

/-- 'coverabilitylaw19.NestedStays': WHATEVER THE INPUT: true; the input reads as it did. -/
def nestedStaysSpec : ChangeSpec := { name := "nestedStays", fn := fun _ => fun
  | [d] => { results := [.lit (.bool true)], args := [d] }
  | _ => none }
def nestedStaysRow : OpenClaim := { program := "ytpplncjaihgimaagreat", sum := "c7082d067c5c4eecd1efd0551726d188934148574341f65aa6eb877ffd9343f0", func := "coverability/coverabilitylaw19.NestedStays", spec := "nestedStays", unfollowed := true, recurses := true, apart := false }
def NestedStaysSaid : Prop := nestedStaysRow.holds Tryz.pinned (OpenSpec.ofChange nestedStaysSpec)

/-- ITS FALSE NEIGHBOUR: 'it returns false'. Refute it at one input. -/
def nestedStaysWrong : ChangeSpec := { name := "nestedStays", fn := fun _ => fun
  | [d] => { results := [.lit (.bool false)], args := [d] }
  | _ => none }
def NestedStaysWrongFalsely : Prop := nestedStaysRow.holds Tryz.pinned (OpenSpec.ofChange nestedStaysWrong)

/- THE SECOND FORM. 'bulk': how many values and letters a reading holds, each counted each time it is reached (what is shared counts as often as it is met; a slice's spare places count too). A statement '..UptoSaid' is the law's where the arguments, and the package variables that the reading takes, are together of bulk at most 1048576: NARROWER than '..Said'. Prove '..Said' where nothing that the law and all that it calls make is longer than what came in: it says more and counts as full. Else prove '..UptoSaid'. A law counts once. -/
mutual
def uptoBulk {H : Type} : DataW H → Nat
  | .lit (.string bytes) => bytes.length + 1
  | .lit _ => 1
  | .nil => 1
  | .ptr d => uptoBulk d + 1
  | .slice elems spare => uptoBulkAll elems + uptoBulkAll spare + 1
  | .agg parts => uptoBulkAll parts + 1
  | .iface _ d => uptoBulk d + 1
  | .map entries => uptoBulkEntries entries + 1
  | .held _ => 1
def uptoBulkAll {H : Type} : List (DataW H) → Nat
  | [] => 0
  | d :: r => uptoBulk d + uptoBulkAll r
def uptoBulkEntries {H : Type} : List (Lit × DataW H) → Nat
  | [] => 0
  | x :: r => uptoBulkEntry x + uptoBulkEntries r
def uptoBulkEntry {H : Type} : Lit × DataW H → Nat
  | (.string bytes, d) => bytes.length + uptoBulk d + 1
  | (_, d) => uptoBulk d + 1
 end
def uptoSmall : (H : Type) → List (DataW H) → Bool := fun _ ds => decide (uptoBulkAll ds ≤ 1048576)
def OpenSpec.upto (s : _root_.Go.ChangeSpec) : _root_.Go.OpenSpec := { _root_.Go.OpenSpec.ofChange s with cond := some uptoSmall }

/-- 'coverabilitylaw19.NestedExact', WHERE WHAT IT READS IS OF BULK AT MOST 1048576: true; the input reads as it did. -/
def nestedExactUptoRow : OpenClaim := { program := "ytpplncjaihgimaagreat", sum := "c7082d067c5c4eecd1efd0551726d188934148574341f65aa6eb877ffd9343f0", func := "coverability/coverabilitylaw19.NestedExact", spec := "nestedExact", unfollowed := true, recurses := true, loops := true, apart := false, narrowed := true }
def NestedExactUptoSaid : Prop := nestedExactUptoRow.holds Tryz.pinned (OpenSpec.upto nestedExactSpec)

/-- 'coverabilitylaw19.NestedGrows', WHERE WHAT IT READS IS OF BULK AT MOST 1048576: true; the input reads as it did. -/
def nestedGrowsUptoRow : OpenClaim := { program := "ytpplncjaihgimaagreat", sum := "c7082d067c5c4eecd1efd0551726d188934148574341f65aa6eb877ffd9343f0", func := "coverability/coverabilitylaw19.NestedGrows", spec := "nestedGrows", unfollowed := true, recurses := true, apart := false, narrowed := true }
def NestedGrowsUptoSaid : Prop := nestedGrowsUptoRow.holds Tryz.pinned (OpenSpec.upto nestedGrowsSpec)

/-- 'coverabilitylaw19.NestedCounts', WHERE WHAT IT READS IS OF BULK AT MOST 1048576: true; the input reads as it did. -/
def nestedCountsUptoRow : OpenClaim := { program := "ytpplncjaihgimaagreat", sum := "c7082d067c5c4eecd1efd0551726d188934148574341f65aa6eb877ffd9343f0", func := "coverability/coverabilitylaw19.NestedCounts", spec := "nestedCounts", unfollowed := true, recurses := true, apart := false, narrowed := true }
def NestedCountsUptoSaid : Prop := nestedCountsUptoRow.holds Tryz.pinned (OpenSpec.upto nestedCountsSpec)

/-- 'coverabilitylaw19.NestedSizes', WHERE WHAT IT READS IS OF BULK AT MOST 1048576: true; the input reads as it did. -/
def nestedSizesUptoRow : OpenClaim := { program := "ytpplncjaihgimaagreat", sum := "c7082d067c5c4eecd1efd0551726d188934148574341f65aa6eb877ffd9343f0", func := "coverability/coverabilitylaw19.NestedSizes", spec := "nestedSizes", unfollowed := true, recurses := true, apart := false, narrowed := true }
def NestedSizesUptoSaid : Prop := nestedSizesUptoRow.holds Tryz.pinned (OpenSpec.upto nestedSizesSpec)

/-- 'coverabilitylaw19.NestedStays', WHERE WHAT IT READS IS OF BULK AT MOST 1048576: true; the input reads as it did. -/
def nestedStaysUptoRow : OpenClaim := { program := "ytpplncjaihgimaagreat", sum := "c7082d067c5c4eecd1efd0551726d188934148574341f65aa6eb877ffd9343f0", func := "coverability/coverabilitylaw19.NestedStays", spec := "nestedStays", unfollowed := true, recurses := true, apart := false, narrowed := true }
def NestedStaysUptoSaid : Prop := nestedStaysUptoRow.holds Tryz.pinned (OpenSpec.upto nestedStaysSpec)

end Rows
end Go.Proofs.YtpplncjaihgimaaGreat
