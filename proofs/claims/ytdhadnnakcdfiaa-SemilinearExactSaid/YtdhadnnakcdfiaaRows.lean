/-
  No cell of these rows narrows 'for every input' (looked for: loops, veiled, ifaces, maps, wideKeys, modest, calm, conditions, laid).
  DERIVED. THE GIVEN ROWS OF THIS SEAT. 5 by the template 'for every input the law returns true; each argument reads behind the call as it read before'; 0 by the template 'total and deterministic' (their statements: YtdhadnnakcdfiaaTotals.lean).
  GIVEN WITH THE SEED: the statements are not yours to turn. If you find one false, say at which input.
  Laid BY PROGRAM, IN A SANDBOX (cutbox-rows.mjs): the forced cells as the released guide's own fill.sh prints them over the translation 975fd651d1d72877… (all of the seat's roots in one cut). By AI agents, Wed Nov 11 2026. No macro, syntax, notation, axiom, sorry.
-/
import Derived.Test.YtdhadnnakcdfiaaChecked
import GoSem.Claim
import GoSem.ClaimJoined
import GoSem.ClaimMapViews
import Derived.JoinedTies
import Derived.KernelRfl
namespace Go.Proofs.Ytdhadnnakcdfiaa
/- THE CELL 'sum', in the pinned program and in every row, IS THE sha256 OF THE DUMP (.gsa) THAT YtdhadnnakcdfiaaProg.lean LOADS. Nothing in Lean hashes anything: it is a label: what it is worth is what the hold of that sum in a sandbox is worth. -/
noncomputable def Try.pinned : Pinned := { name := "ytdhadnnakcdfiaa", sum := "975fd651d1d7287740dee41bee2a4a4209a857aaa9c7bafa72745a77890f1570", checked := Try.checked }
namespace Rows
def none {H : Type} : Left H := { results := [], args := [] }

/-- 'coverabilitylaw13.SemilinearMakes': WHATEVER THE INPUT: true; the input reads as it did. -/
def semilinearMakesSpec : ChangeSpec := { name := "semilinearMakes", fn := fun _ => fun
  | [d] => { results := [.lit (.bool true)], args := [d] }
  | _ => none }
def semilinearMakesRow : OpenClaim := { program := "ytdhadnnakcdfiaa", sum := "975fd651d1d7287740dee41bee2a4a4209a857aaa9c7bafa72745a77890f1570", func := "coverability/coverabilitylaw13.SemilinearMakes", spec := "semilinearMakes", unfollowed := true, recurses := true, apart := false }
def SemilinearMakesSaid : Prop := semilinearMakesRow.holds Try.pinned (OpenSpec.ofChange semilinearMakesSpec)

/-- ITS FALSE NEIGHBOUR: 'it returns false'. Refute it at one input. -/
def semilinearMakesWrong : ChangeSpec := { name := "semilinearMakes", fn := fun _ => fun
  | [d] => { results := [.lit (.bool false)], args := [d] }
  | _ => none }
def SemilinearMakesWrongFalsely : Prop := semilinearMakesRow.holds Try.pinned (OpenSpec.ofChange semilinearMakesWrong)

/-- 'coverabilitylaw13.SemilinearWithin': WHATEVER THE INPUT: true; the input reads as it did. -/
def semilinearWithinSpec : ChangeSpec := { name := "semilinearWithin", fn := fun _ => fun
  | [d] => { results := [.lit (.bool true)], args := [d] }
  | _ => none }
def semilinearWithinRow : OpenClaim := { program := "ytdhadnnakcdfiaa", sum := "975fd651d1d7287740dee41bee2a4a4209a857aaa9c7bafa72745a77890f1570", func := "coverability/coverabilitylaw13.SemilinearWithin", spec := "semilinearWithin", unfollowed := true, recurses := true, apart := false }
def SemilinearWithinSaid : Prop := semilinearWithinRow.holds Try.pinned (OpenSpec.ofChange semilinearWithinSpec)

/-- ITS FALSE NEIGHBOUR: 'it returns false'. Refute it at one input. -/
def semilinearWithinWrong : ChangeSpec := { name := "semilinearWithin", fn := fun _ => fun
  | [d] => { results := [.lit (.bool false)], args := [d] }
  | _ => none }
def SemilinearWithinWrongFalsely : Prop := semilinearWithinRow.holds Try.pinned (OpenSpec.ofChange semilinearWithinWrong)

/-- 'coverabilitylaw13.SemilinearPeriods': WHATEVER THE INPUT: true; the input reads as it did. -/
def semilinearPeriodsSpec : ChangeSpec := { name := "semilinearPeriods", fn := fun _ => fun
  | [d] => { results := [.lit (.bool true)], args := [d] }
  | _ => none }
def semilinearPeriodsRow : OpenClaim := { program := "ytdhadnnakcdfiaa", sum := "975fd651d1d7287740dee41bee2a4a4209a857aaa9c7bafa72745a77890f1570", func := "coverability/coverabilitylaw13.SemilinearPeriods", spec := "semilinearPeriods", unfollowed := true, recurses := true, apart := false }
def SemilinearPeriodsSaid : Prop := semilinearPeriodsRow.holds Try.pinned (OpenSpec.ofChange semilinearPeriodsSpec)

/-- ITS FALSE NEIGHBOUR: 'it returns false'. Refute it at one input. -/
def semilinearPeriodsWrong : ChangeSpec := { name := "semilinearPeriods", fn := fun _ => fun
  | [d] => { results := [.lit (.bool false)], args := [d] }
  | _ => none }
def SemilinearPeriodsWrongFalsely : Prop := semilinearPeriodsRow.holds Try.pinned (OpenSpec.ofChange semilinearPeriodsWrong)

/-- 'coverabilitylaw13.SemilinearExact': WHATEVER THE INPUT: true; the input reads as it did. -/
def semilinearExactSpec : ChangeSpec := { name := "semilinearExact", fn := fun _ => fun
  | [d1, d2, d3, d4, d5, d6, d7] => { results := [.lit (.bool true)], args := [d1, d2, d3, d4, d5, d6, d7] }
  | _ => none }
def semilinearExactRow : OpenClaim := { program := "ytdhadnnakcdfiaa", sum := "975fd651d1d7287740dee41bee2a4a4209a857aaa9c7bafa72745a77890f1570", func := "coverability/coverabilitylaw13.SemilinearExact", spec := "semilinearExact", unfollowed := true, recurses := true, apart := false }
def SemilinearExactSaid : Prop := semilinearExactRow.holds Try.pinned (OpenSpec.ofChange semilinearExactSpec)

/-- ITS FALSE NEIGHBOUR: 'it returns false'. Refute it at one input. -/
def semilinearExactWrong : ChangeSpec := { name := "semilinearExact", fn := fun _ => fun
  | [d1, d2, d3, d4, d5, d6, d7] => { results := [.lit (.bool false)], args := [d1, d2, d3, d4, d5, d6, d7] }
  | _ => none }
def SemilinearExactWrongFalsely : Prop := semilinearExactRow.holds Try.pinned (OpenSpec.ofChange semilinearExactWrong)

/-- 'coverabilitylaw13.SemilinearSums': WHATEVER THE INPUT: true; the input reads as it did. -/
def semilinearSumsSpec : ChangeSpec := { name := "semilinearSums", fn := fun _ => fun
  | [d] => { results := [.lit (.bool true)], args := [d] }
  | _ => none }
def semilinearSumsRow : OpenClaim := { program := "ytdhadnnakcdfiaa", sum := "975fd651d1d7287740dee41bee2a4a4209a857aaa9c7bafa72745a77890f1570", func := "coverability/coverabilitylaw13.SemilinearSums", spec := "semilinearSums", unfollowed := true, recurses := true, apart := false }
def SemilinearSumsSaid : Prop := semilinearSumsRow.holds Try.pinned (OpenSpec.ofChange semilinearSumsSpec)

/-- ITS FALSE NEIGHBOUR: 'it returns false'. Refute it at one input. -/
def semilinearSumsWrong : ChangeSpec := { name := "semilinearSums", fn := fun _ => fun
  | [d] => { results := [.lit (.bool false)], args := [d] }
  | _ => none }
def SemilinearSumsWrongFalsely : Prop := semilinearSumsRow.holds Try.pinned (OpenSpec.ofChange semilinearSumsWrong)

/- THE SECOND FORM. 'bulk': how many values and letters a reading holds, each counted each time it is reached (what is shared counts as often as it is met; a slice's spare places count too). A statement '..UptoSaid' is the law's where the arguments, and the package variables that the reading takes, are together of bulk at most 1048576: NARROWER than '..Said'. Prove '..Said' where nothing that the law and all that it calls make is longer than what came in: it says more and counts as full. Else prove '..UptoSaid'. A law counts once. -/
mutual
def uptoBulk {H : Type} : DataW H → Nat
  | .lit (.string bytes) => bytes.length + 1
  | .lit _ => 1
  | .nil => 1
  | .ptr d => uptoBulk d + 1
  | .slice elems spare => uptoBulkAll elems + uptoBulkAll spare + 1
  | .agg parts => uptoBulkAll parts + 1
  | .iface _ d => uptoBulk d + 1
  | .map entries => uptoBulkEntries entries + 1
  | .held _ => 1
def uptoBulkAll {H : Type} : List (DataW H) → Nat
  | [] => 0
  | d :: r => uptoBulk d + uptoBulkAll r
def uptoBulkEntries {H : Type} : List (Lit × DataW H) → Nat
  | [] => 0
  | x :: r => uptoBulkEntry x + uptoBulkEntries r
def uptoBulkEntry {H : Type} : Lit × DataW H → Nat
  | (.string bytes, d) => bytes.length + uptoBulk d + 1
  | (_, d) => uptoBulk d + 1
 end
def uptoSmall : (H : Type) → List (DataW H) → Bool := fun _ ds => decide (uptoBulkAll ds ≤ 1048576)
def OpenSpec.upto (s : _root_.Go.ChangeSpec) : _root_.Go.OpenSpec := { _root_.Go.OpenSpec.ofChange s with cond := some uptoSmall }

/-- 'coverabilitylaw13.SemilinearMakes', WHERE WHAT IT READS IS OF BULK AT MOST 1048576: true; the input reads as it did. -/
def semilinearMakesUptoRow : OpenClaim := { program := "ytdhadnnakcdfiaa", sum := "975fd651d1d7287740dee41bee2a4a4209a857aaa9c7bafa72745a77890f1570", func := "coverability/coverabilitylaw13.SemilinearMakes", spec := "semilinearMakes", unfollowed := true, recurses := true, apart := false, narrowed := true }
def SemilinearMakesUptoSaid : Prop := semilinearMakesUptoRow.holds Try.pinned (OpenSpec.upto semilinearMakesSpec)

/-- 'coverabilitylaw13.SemilinearWithin', WHERE WHAT IT READS IS OF BULK AT MOST 1048576: true; the input reads as it did. -/
def semilinearWithinUptoRow : OpenClaim := { program := "ytdhadnnakcdfiaa", sum := "975fd651d1d7287740dee41bee2a4a4209a857aaa9c7bafa72745a77890f1570", func := "coverability/coverabilitylaw13.SemilinearWithin", spec := "semilinearWithin", unfollowed := true, recurses := true, apart := false, narrowed := true }
def SemilinearWithinUptoSaid : Prop := semilinearWithinUptoRow.holds Try.pinned (OpenSpec.upto semilinearWithinSpec)

/-- 'coverabilitylaw13.SemilinearPeriods', WHERE WHAT IT READS IS OF BULK AT MOST 1048576: true; the input reads as it did. -/
def semilinearPeriodsUptoRow : OpenClaim := { program := "ytdhadnnakcdfiaa", sum := "975fd651d1d7287740dee41bee2a4a4209a857aaa9c7bafa72745a77890f1570", func := "coverability/coverabilitylaw13.SemilinearPeriods", spec := "semilinearPeriods", unfollowed := true, recurses := true, apart := false, narrowed := true }
def SemilinearPeriodsUptoSaid : Prop := semilinearPeriodsUptoRow.holds Try.pinned (OpenSpec.upto semilinearPeriodsSpec)

/-- 'coverabilitylaw13.SemilinearExact', WHERE WHAT IT READS IS OF BULK AT MOST 1048576: true; the input reads as it did. -/
def semilinearExactUptoRow : OpenClaim := { program := "ytdhadnnakcdfiaa", sum := "975fd651d1d7287740dee41bee2a4a4209a857aaa9c7bafa72745a77890f1570", func := "coverability/coverabilitylaw13.SemilinearExact", spec := "semilinearExact", unfollowed := true, recurses := true, apart := false, narrowed := true }
def SemilinearExactUptoSaid : Prop := semilinearExactUptoRow.holds Try.pinned (OpenSpec.upto semilinearExactSpec)

/-- 'coverabilitylaw13.SemilinearSums', WHERE WHAT IT READS IS OF BULK AT MOST 1048576: true; the input reads as it did. -/
def semilinearSumsUptoRow : OpenClaim := { program := "ytdhadnnakcdfiaa", sum := "975fd651d1d7287740dee41bee2a4a4209a857aaa9c7bafa72745a77890f1570", func := "coverability/coverabilitylaw13.SemilinearSums", spec := "semilinearSums", unfollowed := true, recurses := true, apart := false, narrowed := true }
def SemilinearSumsUptoSaid : Prop := semilinearSumsUptoRow.holds Try.pinned (OpenSpec.upto semilinearSumsSpec)

end Rows
end Go.Proofs.Ytdhadnnakcdfiaa
