/-
  No cell of these rows narrows 'for every input' (looked for: loops, veiled, ifaces, maps, wideKeys, modest, calm, conditions, laid).
  DERIVED. THE GIVEN ROWS OF THIS SEAT. 5 by the template 'for every input the law returns true; each argument reads behind the call as it read before'; 0 by the template 'total and deterministic' (their statements: YthpobeeccgmieaaTotals.lean).
  GIVEN WITH THE SEED: the statements are not yours to turn. If you find one false, say at which input.
  Laid BY PROGRAM, IN A SANDBOX (cutbox-rows.mjs): the forced cells as the released guide's own fill.sh prints them over the translation ff6440d6c1a2a7fb… (all of the seat's roots in one cut). By AI agents, Wed Nov 11 2026. No macro, syntax, notation, axiom, sorry.
-/
import Derived.Test.YthpobeeccgmieaaChecked
import GoSem.Claim
import GoSem.ClaimJoined
import GoSem.ClaimMapViews
import Derived.JoinedTies
import Derived.KernelRfl
namespace Go.Proofs.Ythpobeeccgmieaa
/- THE CELL 'sum', in the pinned program and in every row, IS THE sha256 OF THE DUMP (.gsa) THAT YthpobeeccgmieaaProg.lean LOADS. Nothing in Lean hashes anything: it is a label: what it is worth is what the hold of that sum in a sandbox is worth. -/
noncomputable def Try.pinned : Pinned := { name := "ythpobeeccgmieaa", sum := "ff6440d6c1a2a7fbbc5440c41a3399e6d525a9c32b677a343ecb3ea366681cf1", checked := Try.checked }
namespace Rows
def none {H : Type} : Left H := { results := [], args := [] }

/-- 'coverabilitylaw12.HilbertExact': WHATEVER THE INPUT: true; the input reads as it did. -/
def hilbertExactSpec : ChangeSpec := { name := "hilbertExact", fn := fun _ => fun
  | [d1, d2, d3, d4, d5] => { results := [.lit (.bool true)], args := [d1, d2, d3, d4, d5] }
  | _ => none }
def hilbertExactRow : OpenClaim := { program := "ythpobeeccgmieaa", sum := "ff6440d6c1a2a7fbbc5440c41a3399e6d525a9c32b677a343ecb3ea366681cf1", func := "coverability/coverabilitylaw12.HilbertExact", spec := "hilbertExact", unfollowed := true, recurses := true, apart := false }
def HilbertExactSaid : Prop := hilbertExactRow.holds Try.pinned (OpenSpec.ofChange hilbertExactSpec)

/-- ITS FALSE NEIGHBOUR: 'it returns false'. Refute it at one input. -/
def hilbertExactWrong : ChangeSpec := { name := "hilbertExact", fn := fun _ => fun
  | [d1, d2, d3, d4, d5] => { results := [.lit (.bool false)], args := [d1, d2, d3, d4, d5] }
  | _ => none }
def HilbertExactWrongFalsely : Prop := hilbertExactRow.holds Try.pinned (OpenSpec.ofChange hilbertExactWrong)

/-- 'coverabilitylaw12.HilbertMinimal': WHATEVER THE INPUT: true; the input reads as it did. -/
def hilbertMinimalSpec : ChangeSpec := { name := "hilbertMinimal", fn := fun _ => fun
  | [d] => { results := [.lit (.bool true)], args := [d] }
  | _ => none }
def hilbertMinimalRow : OpenClaim := { program := "ythpobeeccgmieaa", sum := "ff6440d6c1a2a7fbbc5440c41a3399e6d525a9c32b677a343ecb3ea366681cf1", func := "coverability/coverabilitylaw12.HilbertMinimal", spec := "hilbertMinimal", unfollowed := true, recurses := true, apart := false }
def HilbertMinimalSaid : Prop := hilbertMinimalRow.holds Try.pinned (OpenSpec.ofChange hilbertMinimalSpec)

/-- ITS FALSE NEIGHBOUR: 'it returns false'. Refute it at one input. -/
def hilbertMinimalWrong : ChangeSpec := { name := "hilbertMinimal", fn := fun _ => fun
  | [d] => { results := [.lit (.bool false)], args := [d] }
  | _ => none }
def HilbertMinimalWrongFalsely : Prop := hilbertMinimalRow.holds Try.pinned (OpenSpec.ofChange hilbertMinimalWrong)

/-- 'coverabilitylaw12.HilbertMore': WHATEVER THE INPUT: true; the input reads as it did. -/
def hilbertMoreSpec : ChangeSpec := { name := "hilbertMore", fn := fun _ => fun
  | [d] => { results := [.lit (.bool true)], args := [d] }
  | _ => none }
def hilbertMoreRow : OpenClaim := { program := "ythpobeeccgmieaa", sum := "ff6440d6c1a2a7fbbc5440c41a3399e6d525a9c32b677a343ecb3ea366681cf1", func := "coverability/coverabilitylaw12.HilbertMore", spec := "hilbertMore", unfollowed := true, recurses := true, apart := false }
def HilbertMoreSaid : Prop := hilbertMoreRow.holds Try.pinned (OpenSpec.ofChange hilbertMoreSpec)

/-- ITS FALSE NEIGHBOUR: 'it returns false'. Refute it at one input. -/
def hilbertMoreWrong : ChangeSpec := { name := "hilbertMore", fn := fun _ => fun
  | [d] => { results := [.lit (.bool false)], args := [d] }
  | _ => none }
def HilbertMoreWrongFalsely : Prop := hilbertMoreRow.holds Try.pinned (OpenSpec.ofChange hilbertMoreWrong)

/-- 'coverabilitylaw12.HilbertSplits': WHATEVER THE INPUT: true; the input reads as it did. -/
def hilbertSplitsSpec : ChangeSpec := { name := "hilbertSplits", fn := fun _ => fun
  | [d] => { results := [.lit (.bool true)], args := [d] }
  | _ => none }
def hilbertSplitsRow : OpenClaim := { program := "ythpobeeccgmieaa", sum := "ff6440d6c1a2a7fbbc5440c41a3399e6d525a9c32b677a343ecb3ea366681cf1", func := "coverability/coverabilitylaw12.HilbertSplits", spec := "hilbertSplits", unfollowed := true, recurses := true, apart := false }
def HilbertSplitsSaid : Prop := hilbertSplitsRow.holds Try.pinned (OpenSpec.ofChange hilbertSplitsSpec)

/-- ITS FALSE NEIGHBOUR: 'it returns false'. Refute it at one input. -/
def hilbertSplitsWrong : ChangeSpec := { name := "hilbertSplits", fn := fun _ => fun
  | [d] => { results := [.lit (.bool false)], args := [d] }
  | _ => none }
def HilbertSplitsWrongFalsely : Prop := hilbertSplitsRow.holds Try.pinned (OpenSpec.ofChange hilbertSplitsWrong)

/-- 'coverabilitylaw12.HilbertSigns': WHATEVER THE INPUT: true; the input reads as it did. -/
def hilbertSignsSpec : ChangeSpec := { name := "hilbertSigns", fn := fun _ => fun
  | [d] => { results := [.lit (.bool true)], args := [d] }
  | _ => none }
def hilbertSignsRow : OpenClaim := { program := "ythpobeeccgmieaa", sum := "ff6440d6c1a2a7fbbc5440c41a3399e6d525a9c32b677a343ecb3ea366681cf1", func := "coverability/coverabilitylaw12.HilbertSigns", spec := "hilbertSigns", unfollowed := true, recurses := true, apart := false }
def HilbertSignsSaid : Prop := hilbertSignsRow.holds Try.pinned (OpenSpec.ofChange hilbertSignsSpec)

/-- ITS FALSE NEIGHBOUR: 'it returns false'. Refute it at one input. -/
def hilbertSignsWrong : ChangeSpec := { name := "hilbertSigns", fn := fun _ => fun
  | [d] => { results := [.lit (.bool false)], args := [d] }
  | _ => none }
def HilbertSignsWrongFalsely : Prop := hilbertSignsRow.holds Try.pinned (OpenSpec.ofChange hilbertSignsWrong)

/- THE SECOND FORM. 'bulk': how many values and letters a reading holds, each counted each time it is reached (what is shared counts as often as it is met; a slice's spare places count too). A statement '..UptoSaid' is the law's where the arguments, and the package variables that the reading takes, are together of bulk at most 1048576: NARROWER than '..Said'. Prove '..Said' where nothing that the law and all that it calls make is longer than what came in: it says more and counts as full. Else prove '..UptoSaid'. A law counts once. -/
mutual
def uptoBulk {H : Type} : DataW H → Nat
  | .lit (.string bytes) => bytes.length + 1
  | .lit _ => 1
  | .nil => 1
  | .ptr d => uptoBulk d + 1
  | .slice elems spare => uptoBulkAll elems + uptoBulkAll spare + 1
  | .agg parts => uptoBulkAll parts + 1
  | .iface _ d => uptoBulk d + 1
  | .map entries => uptoBulkEntries entries + 1
  | .held _ => 1
def uptoBulkAll {H : Type} : List (DataW H) → Nat
  | [] => 0
  | d :: r => uptoBulk d + uptoBulkAll r
def uptoBulkEntries {H : Type} : List (Lit × DataW H) → Nat
  | [] => 0
  | x :: r => uptoBulkEntry x + uptoBulkEntries r
def uptoBulkEntry {H : Type} : Lit × DataW H → Nat
  | (.string bytes, d) => bytes.length + uptoBulk d + 1
  | (_, d) => uptoBulk d + 1
 end
def uptoSmall : (H : Type) → List (DataW H) → Bool := fun _ ds => decide (uptoBulkAll ds ≤ 1048576)
def OpenSpec.upto (s : _root_.Go.ChangeSpec) : _root_.Go.OpenSpec := { _root_.Go.OpenSpec.ofChange s with cond := some uptoSmall }

/-- 'coverabilitylaw12.HilbertExact', WHERE WHAT IT READS IS OF BULK AT MOST 1048576: true; the input reads as it did. -/
def hilbertExactUptoRow : OpenClaim := { program := "ythpobeeccgmieaa", sum := "ff6440d6c1a2a7fbbc5440c41a3399e6d525a9c32b677a343ecb3ea366681cf1", func := "coverability/coverabilitylaw12.HilbertExact", spec := "hilbertExact", unfollowed := true, recurses := true, apart := false, narrowed := true }
def HilbertExactUptoSaid : Prop := hilbertExactUptoRow.holds Try.pinned (OpenSpec.upto hilbertExactSpec)

/-- 'coverabilitylaw12.HilbertMinimal', WHERE WHAT IT READS IS OF BULK AT MOST 1048576: true; the input reads as it did. -/
def hilbertMinimalUptoRow : OpenClaim := { program := "ythpobeeccgmieaa", sum := "ff6440d6c1a2a7fbbc5440c41a3399e6d525a9c32b677a343ecb3ea366681cf1", func := "coverability/coverabilitylaw12.HilbertMinimal", spec := "hilbertMinimal", unfollowed := true, recurses := true, apart := false, narrowed := true }
def HilbertMinimalUptoSaid : Prop := hilbertMinimalUptoRow.holds Try.pinned (OpenSpec.upto hilbertMinimalSpec)

/-- 'coverabilitylaw12.HilbertMore', WHERE WHAT IT READS IS OF BULK AT MOST 1048576: true; the input reads as it did. -/
def hilbertMoreUptoRow : OpenClaim := { program := "ythpobeeccgmieaa", sum := "ff6440d6c1a2a7fbbc5440c41a3399e6d525a9c32b677a343ecb3ea366681cf1", func := "coverability/coverabilitylaw12.HilbertMore", spec := "hilbertMore", unfollowed := true, recurses := true, apart := false, narrowed := true }
def HilbertMoreUptoSaid : Prop := hilbertMoreUptoRow.holds Try.pinned (OpenSpec.upto hilbertMoreSpec)

/-- 'coverabilitylaw12.HilbertSplits', WHERE WHAT IT READS IS OF BULK AT MOST 1048576: true; the input reads as it did. -/
def hilbertSplitsUptoRow : OpenClaim := { program := "ythpobeeccgmieaa", sum := "ff6440d6c1a2a7fbbc5440c41a3399e6d525a9c32b677a343ecb3ea366681cf1", func := "coverability/coverabilitylaw12.HilbertSplits", spec := "hilbertSplits", unfollowed := true, recurses := true, apart := false, narrowed := true }
def HilbertSplitsUptoSaid : Prop := hilbertSplitsUptoRow.holds Try.pinned (OpenSpec.upto hilbertSplitsSpec)

/-- 'coverabilitylaw12.HilbertSigns', WHERE WHAT IT READS IS OF BULK AT MOST 1048576: true; the input reads as it did. -/
def hilbertSignsUptoRow : OpenClaim := { program := "ythpobeeccgmieaa", sum := "ff6440d6c1a2a7fbbc5440c41a3399e6d525a9c32b677a343ecb3ea366681cf1", func := "coverability/coverabilitylaw12.HilbertSigns", spec := "hilbertSigns", unfollowed := true, recurses := true, apart := false, narrowed := true }
def HilbertSignsUptoSaid : Prop := hilbertSignsUptoRow.holds Try.pinned (OpenSpec.upto hilbertSignsSpec)

end Rows
end Go.Proofs.Ythpobeeccgmieaa
