/-
  NARROWER THAN 'FOR EVERY INPUT', by the rows' own cells (each row's printed sentence says how): TimedExact: loops.
  DERIVED. THE GIVEN ROWS OF THIS SEAT. 5 by the template 'for every input the law returns true; each argument reads behind the call as it read before'; 0 by the template 'total and deterministic' (their statements: YtikhhnopcjgjpaaGreatTotals.lean).
  GIVEN WITH THE SEED: the statements are not yours to turn. If you find one false, say at which input.
  Laid BY PROGRAM, IN A SANDBOX (cutbox-rows.mjs): the forced cells as the released guide's own fill.sh prints them over the translation 862b422197d7ad84… (all of the seat's roots in one cut). By AI agents, Wed Nov 11 2026. No macro, syntax, notation, axiom, sorry.
-/
import Derived.Test.YtikhhnopcjgjpaaGreatChecked
import GoSem.Claim
import GoSem.ClaimJoined
import GoSem.ClaimMapViews
import Derived.JoinedTies
import Derived.KernelRfl
namespace Go.Proofs.YtikhhnopcjgjpaaGreat
/- THE CELL 'sum', in the pinned program and in every row, IS THE sha256 OF THE DUMP (.gsa) THAT YtikhhnopcjgjpaaGreatProg.lean LOADS. Nothing in Lean hashes anything: it is a label: what it is worth is what the hold of that sum in a sandbox is worth. -/
noncomputable def Tryz.pinned : Pinned := { name := "ytikhhnopcjgjpaagreat", sum := "862b422197d7ad8408cb28f5e3076ab3bca659a28eb58e1ad84c98c2537acc46", checked := Tryz.checked }
namespace Rows
def none {H : Type} : Left H := { results := [], args := [] }

/-- 'coverabilitylaw20.TimedExact': WHATEVER THE INPUT: true; the input reads as it did. -/
def timedExactSpec : ChangeSpec := { name := "timedExact", fn := fun _ => fun
  | [d1, d2, d3] => { results := [.lit (.bool true)], args := [d1, d2, d3] }
  | _ => none }
def timedExactRow : OpenClaim := { program := "ytikhhnopcjgjpaagreat", sum := "862b422197d7ad8408cb28f5e3076ab3bca659a28eb58e1ad84c98c2537acc46", func := "coverability/coverabilitylaw20.TimedExact", spec := "timedExact", unfollowed := true, recurses := true, loops := true, apart := false }
def TimedExactSaid : Prop := timedExactRow.holds Tryz.pinned (OpenSpec.ofChange timedExactSpec)

/-- ITS FALSE NEIGHBOUR: 'it returns false'. Refute it at one input. -/
def timedExactWrong : ChangeSpec := { name := "timedExact", fn := fun _ => fun
  | [d1, d2, d3] => { results := [.lit (.bool false)], args := [d1, d2, d3] }
  | _ => none }
def TimedExactWrongFalsely : Prop := timedExactRow.holds Tryz.pinned (OpenSpec.ofChange timedExactWrong)

/-- 'coverabilitylaw20.TimedGrows': WHATEVER THE INPUT: true; the input reads as it did. -/
def timedGrowsSpec : ChangeSpec := { name := "timedGrows", fn := fun _ => fun
  | [d] => { results := [.lit (.bool true)], args := [d] }
  | _ => none }
def timedGrowsRow : OpenClaim := { program := "ytikhhnopcjgjpaagreat", sum := "862b422197d7ad8408cb28f5e3076ab3bca659a28eb58e1ad84c98c2537acc46", func := "coverability/coverabilitylaw20.TimedGrows", spec := "timedGrows", unfollowed := true, recurses := true, apart := false }
def TimedGrowsSaid : Prop := timedGrowsRow.holds Tryz.pinned (OpenSpec.ofChange timedGrowsSpec)

/-- ITS FALSE NEIGHBOUR: 'it returns false'. Refute it at one input. -/
def timedGrowsWrong : ChangeSpec := { name := "timedGrows", fn := fun _ => fun
  | [d] => { results := [.lit (.bool false)], args := [d] }
  | _ => none }
def TimedGrowsWrongFalsely : Prop := timedGrowsRow.holds Tryz.pinned (OpenSpec.ofChange timedGrowsWrong)

/-- 'coverabilitylaw20.TimedTicks': WHATEVER THE INPUT: true; the input reads as it did. -/
def timedTicksSpec : ChangeSpec := { name := "timedTicks", fn := fun _ => fun
  | [d] => { results := [.lit (.bool true)], args := [d] }
  | _ => none }
def timedTicksRow : OpenClaim := { program := "ytikhhnopcjgjpaagreat", sum := "862b422197d7ad8408cb28f5e3076ab3bca659a28eb58e1ad84c98c2537acc46", func := "coverability/coverabilitylaw20.TimedTicks", spec := "timedTicks", unfollowed := true, recurses := true, apart := false }
def TimedTicksSaid : Prop := timedTicksRow.holds Tryz.pinned (OpenSpec.ofChange timedTicksSpec)

/-- ITS FALSE NEIGHBOUR: 'it returns false'. Refute it at one input. -/
def timedTicksWrong : ChangeSpec := { name := "timedTicks", fn := fun _ => fun
  | [d] => { results := [.lit (.bool false)], args := [d] }
  | _ => none }
def TimedTicksWrongFalsely : Prop := timedTicksRow.holds Tryz.pinned (OpenSpec.ofChange timedTicksWrong)

/-- 'coverabilitylaw20.TimedTakes': WHATEVER THE INPUT: true; the input reads as it did. -/
def timedTakesSpec : ChangeSpec := { name := "timedTakes", fn := fun _ => fun
  | [d] => { results := [.lit (.bool true)], args := [d] }
  | _ => none }
def timedTakesRow : OpenClaim := { program := "ytikhhnopcjgjpaagreat", sum := "862b422197d7ad8408cb28f5e3076ab3bca659a28eb58e1ad84c98c2537acc46", func := "coverability/coverabilitylaw20.TimedTakes", spec := "timedTakes", unfollowed := true, recurses := true, apart := false }
def TimedTakesSaid : Prop := timedTakesRow.holds Tryz.pinned (OpenSpec.ofChange timedTakesSpec)

/-- ITS FALSE NEIGHBOUR: 'it returns false'. Refute it at one input. -/
def timedTakesWrong : ChangeSpec := { name := "timedTakes", fn := fun _ => fun
  | [d] => { results := [.lit (.bool false)], args := [d] }
  | _ => none }
def TimedTakesWrongFalsely : Prop := timedTakesRow.holds Tryz.pinned (OpenSpec.ofChange timedTakesWrong)

/-- 'coverabilitylaw20.TimedWaits': WHATEVER THE INPUT: true; the input reads as it did. -/
def timedWaitsSpec : ChangeSpec := { name := "timedWaits", fn := fun _ => fun
  | [d1, d2] => { results := [.lit (.bool true)], args := [d1, d2] }
  | _ => none }
def timedWaitsRow : OpenClaim := { program := "ytikhhnopcjgjpaagreat", sum := "862b422197d7ad8408cb28f5e3076ab3bca659a28eb58e1ad84c98c2537acc46", func := "coverability/coverabilitylaw20.TimedWaits", spec := "timedWaits", unfollowed := true, recurses := true, apart := false }
def TimedWaitsSaid : Prop := timedWaitsRow.holds Tryz.pinned (OpenSpec.ofChange timedWaitsSpec)

/-- ITS FALSE NEIGHBOUR: 'it returns false'. Refute it at one input. -/
def timedWaitsWrong : ChangeSpec := { name := "timedWaits", fn := fun _ => fun
  | [d1, d2] => { results := [.lit (.bool false)], args := [d1, d2] }
  | _ => none }
def TimedWaitsWrongFalsely : Prop := timedWaitsRow.holds Tryz.pinned (OpenSpec.ofChange timedWaitsWrong)

/- THE SECOND FORM. 'bulk': how many values and letters a reading holds, each counted each time it is reached (what is shared counts as often as it is met; a slice's spare places count too). A statement '..UptoSaid' is the law's where the arguments, and the package variables that the reading takes, are together of bulk at most 1048576: NARROWER than '..Said'. Prove '..Said' where nothing that the law and all that it calls make is longer than what came in: it says more and counts as full. Else prove '..UptoSaid'. A law counts once. -/
mutual
def uptoBulk {H : Type} : DataW H → Nat
  | .lit (.string bytes) => bytes.length + 1
  | .lit _ => 1
  | .nil => 1
  | .ptr d => uptoBulk d + 1
  | .slice elems spare => uptoBulkAll elems + uptoBulkAll spare + 1
  | .agg parts => uptoBulkAll parts + 1
  | .iface _ d => uptoBulk d + 1
  | .map entries => uptoBulkEntries entries + 1
  | .held _ => 1
def uptoBulkAll {H : Type} : List (DataW H) → Nat
  | [] => 0
  | d :: r => uptoBulk d + uptoBulkAll r
def uptoBulkEntries {H : Type} : List (Lit × DataW H) → Nat
  | [] => 0
  | x :: r => uptoBulkEntry x + uptoBulkEntries r
def uptoBulkEntry {H : Type} : Lit × DataW H → Nat
  | (.string bytes, d) => bytes.length + uptoBulk d + 1
  | (_, d) => uptoBulk d + 1
 end
def uptoSmall : (H : Type) → List (DataW H) → Bool := fun _ ds => decide (uptoBulkAll ds ≤ 1048576)
def OpenSpec.upto (s : _root_.Go.ChangeSpec) : _root_.Go.OpenSpec := { _root_.Go.OpenSpec.ofChange s with cond := some uptoSmall }

/-- 'coverabilitylaw20.TimedExact', WHERE WHAT IT READS IS OF BULK AT MOST 1048576: true; the input reads as it did. -/
def timedExactUptoRow : OpenClaim := { program := "ytikhhnopcjgjpaagreat", sum := "862b422197d7ad8408cb28f5e3076ab3bca659a28eb58e1ad84c98c2537acc46", func := "coverability/coverabilitylaw20.TimedExact", spec := "timedExact", unfollowed := true, recurses := true, loops := true, apart := false, narrowed := true }
def TimedExactUptoSaid : Prop := timedExactUptoRow.holds Tryz.pinned (OpenSpec.upto timedExactSpec)

/-- 'coverabilitylaw20.TimedGrows', WHERE WHAT IT READS IS OF BULK AT MOST 1048576: true; the input reads as it did. -/
def timedGrowsUptoRow : OpenClaim := { program := "ytikhhnopcjgjpaagreat", sum := "862b422197d7ad8408cb28f5e3076ab3bca659a28eb58e1ad84c98c2537acc46", func := "coverability/coverabilitylaw20.TimedGrows", spec := "timedGrows", unfollowed := true, recurses := true, apart := false, narrowed := true }
def TimedGrowsUptoSaid : Prop := timedGrowsUptoRow.holds Tryz.pinned (OpenSpec.upto timedGrowsSpec)

/-- 'coverabilitylaw20.TimedTicks', WHERE WHAT IT READS IS OF BULK AT MOST 1048576: true; the input reads as it did. -/
def timedTicksUptoRow : OpenClaim := { program := "ytikhhnopcjgjpaagreat", sum := "862b422197d7ad8408cb28f5e3076ab3bca659a28eb58e1ad84c98c2537acc46", func := "coverability/coverabilitylaw20.TimedTicks", spec := "timedTicks", unfollowed := true, recurses := true, apart := false, narrowed := true }
def TimedTicksUptoSaid : Prop := timedTicksUptoRow.holds Tryz.pinned (OpenSpec.upto timedTicksSpec)

/-- 'coverabilitylaw20.TimedTakes', WHERE WHAT IT READS IS OF BULK AT MOST 1048576: true; the input reads as it did. -/
def timedTakesUptoRow : OpenClaim := { program := "ytikhhnopcjgjpaagreat", sum := "862b422197d7ad8408cb28f5e3076ab3bca659a28eb58e1ad84c98c2537acc46", func := "coverability/coverabilitylaw20.TimedTakes", spec := "timedTakes", unfollowed := true, recurses := true, apart := false, narrowed := true }
def TimedTakesUptoSaid : Prop := timedTakesUptoRow.holds Tryz.pinned (OpenSpec.upto timedTakesSpec)

/-- 'coverabilitylaw20.TimedWaits', WHERE WHAT IT READS IS OF BULK AT MOST 1048576: true; the input reads as it did. -/
def timedWaitsUptoRow : OpenClaim := { program := "ytikhhnopcjgjpaagreat", sum := "862b422197d7ad8408cb28f5e3076ab3bca659a28eb58e1ad84c98c2537acc46", func := "coverability/coverabilitylaw20.TimedWaits", spec := "timedWaits", unfollowed := true, recurses := true, apart := false, narrowed := true }
def TimedWaitsUptoSaid : Prop := timedWaitsUptoRow.holds Tryz.pinned (OpenSpec.upto timedWaitsSpec)

end Rows
end Go.Proofs.YtikhhnopcjgjpaaGreat
