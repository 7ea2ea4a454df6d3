/-
  No cell of these rows narrows 'for every input' (looked for: loops, veiled, ifaces, maps, wideKeys, modest, calm, conditions, laid).
  DERIVED. THE GIVEN ROWS OF THIS SEAT. 5 by the template 'for every input the law returns true; each argument reads behind the call as it read before'; 0 by the template 'total and deterministic' (their statements: YtpnkaicbcbimaaaTotals.lean).
  GIVEN WITH THE SEED: the statements are not yours to turn. If you find one false, say at which input.
  Laid BY PROGRAM, IN A SANDBOX (cutbox-rows.mjs): the forced cells as the released guide's own fill.sh prints them over the translation 24f8d23d07462f01… (all of the seat's roots in one cut). By AI agents, Wed Nov 11 2026. No macro, syntax, notation, axiom, sorry.
-/
import Derived.Test.YtpnkaicbcbimaaaChecked
import GoSem.Claim
import GoSem.ClaimJoined
import GoSem.ClaimMapViews
import Derived.JoinedTies
import Derived.KernelRfl
namespace Go.Proofs.Ytpnkaicbcbimaaa
/- THE CELL 'sum', in the pinned program and in every row, IS THE sha256 OF THE DUMP (.gsa) THAT YtpnkaicbcbimaaaProg.lean LOADS. Nothing in Lean hashes anything: it is a label: what it is worth is what the hold of that sum in a sandbox is worth. -/
noncomputable def Try.pinned : Pinned := { name := "ytpnkaicbcbimaaa", sum := "24f8d23d07462f01082d5d04d8de3ac500d5a61ffc782d9f066c966f60aad969", checked := Try.checked }
namespace Rows
def none {H : Type} : Left H := { results := [], args := [] }

/-- 'coverabilitylaw03.MultisetExact': WHATEVER THE INPUT: true; the input reads as it did. -/
def multisetExactSpec : ChangeSpec := { name := "multisetExact", fn := fun _ => fun
  | [d1, d2, d3] => { results := [.lit (.bool true)], args := [d1, d2, d3] }
  | _ => none }
def multisetExactRow : OpenClaim := { program := "ytpnkaicbcbimaaa", sum := "24f8d23d07462f01082d5d04d8de3ac500d5a61ffc782d9f066c966f60aad969", func := "coverability/coverabilitylaw03.MultisetExact", spec := "multisetExact", recurses := true, apart := false }
def MultisetExactSaid : Prop := multisetExactRow.holds Try.pinned (OpenSpec.ofChange multisetExactSpec)

/-- ITS FALSE NEIGHBOUR: 'it returns false'. Refute it at one input. -/
def multisetExactWrong : ChangeSpec := { name := "multisetExact", fn := fun _ => fun
  | [d1, d2, d3] => { results := [.lit (.bool false)], args := [d1, d2, d3] }
  | _ => none }
def MultisetExactWrongFalsely : Prop := multisetExactRow.holds Try.pinned (OpenSpec.ofChange multisetExactWrong)

/-- 'coverabilitylaw03.MultisetMatches': WHATEVER THE INPUT: true; the input reads as it did. -/
def multisetMatchesSpec : ChangeSpec := { name := "multisetMatches", fn := fun _ => fun
  | [d] => { results := [.lit (.bool true)], args := [d] }
  | _ => none }
def multisetMatchesRow : OpenClaim := { program := "ytpnkaicbcbimaaa", sum := "24f8d23d07462f01082d5d04d8de3ac500d5a61ffc782d9f066c966f60aad969", func := "coverability/coverabilitylaw03.MultisetMatches", spec := "multisetMatches", recurses := true, apart := false }
def MultisetMatchesSaid : Prop := multisetMatchesRow.holds Try.pinned (OpenSpec.ofChange multisetMatchesSpec)

/-- ITS FALSE NEIGHBOUR: 'it returns false'. Refute it at one input. -/
def multisetMatchesWrong : ChangeSpec := { name := "multisetMatches", fn := fun _ => fun
  | [d] => { results := [.lit (.bool false)], args := [d] }
  | _ => none }
def MultisetMatchesWrongFalsely : Prop := multisetMatchesRow.holds Try.pinned (OpenSpec.ofChange multisetMatchesWrong)

/-- 'coverabilitylaw03.MultisetGrows': WHATEVER THE INPUT: true; the input reads as it did. -/
def multisetGrowsSpec : ChangeSpec := { name := "multisetGrows", fn := fun _ => fun
  | [d] => { results := [.lit (.bool true)], args := [d] }
  | _ => none }
def multisetGrowsRow : OpenClaim := { program := "ytpnkaicbcbimaaa", sum := "24f8d23d07462f01082d5d04d8de3ac500d5a61ffc782d9f066c966f60aad969", func := "coverability/coverabilitylaw03.MultisetGrows", spec := "multisetGrows", recurses := true, apart := false }
def MultisetGrowsSaid : Prop := multisetGrowsRow.holds Try.pinned (OpenSpec.ofChange multisetGrowsSpec)

/-- ITS FALSE NEIGHBOUR: 'it returns false'. Refute it at one input. -/
def multisetGrowsWrong : ChangeSpec := { name := "multisetGrows", fn := fun _ => fun
  | [d] => { results := [.lit (.bool false)], args := [d] }
  | _ => none }
def MultisetGrowsWrongFalsely : Prop := multisetGrowsRow.holds Try.pinned (OpenSpec.ofChange multisetGrowsWrong)

/-- 'coverabilitylaw03.MultisetKoenig': WHATEVER THE INPUT: true; the input reads as it did. -/
def multisetKoenigSpec : ChangeSpec := { name := "multisetKoenig", fn := fun _ => fun
  | [d] => { results := [.lit (.bool true)], args := [d] }
  | _ => none }
def multisetKoenigRow : OpenClaim := { program := "ytpnkaicbcbimaaa", sum := "24f8d23d07462f01082d5d04d8de3ac500d5a61ffc782d9f066c966f60aad969", func := "coverability/coverabilitylaw03.MultisetKoenig", spec := "multisetKoenig", recurses := true, apart := false }
def MultisetKoenigSaid : Prop := multisetKoenigRow.holds Try.pinned (OpenSpec.ofChange multisetKoenigSpec)

/-- ITS FALSE NEIGHBOUR: 'it returns false'. Refute it at one input. -/
def multisetKoenigWrong : ChangeSpec := { name := "multisetKoenig", fn := fun _ => fun
  | [d] => { results := [.lit (.bool false)], args := [d] }
  | _ => none }
def MultisetKoenigWrongFalsely : Prop := multisetKoenigRow.holds Try.pinned (OpenSpec.ofChange multisetKoenigWrong)

/-- 'coverabilitylaw03.MultisetTurns': WHATEVER THE INPUT: true; the input reads as it did. -/
def multisetTurnsSpec : ChangeSpec := { name := "multisetTurns", fn := fun _ => fun
  | [d] => { results := [.lit (.bool true)], args := [d] }
  | _ => none }
def multisetTurnsRow : OpenClaim := { program := "ytpnkaicbcbimaaa", sum := "24f8d23d07462f01082d5d04d8de3ac500d5a61ffc782d9f066c966f60aad969", func := "coverability/coverabilitylaw03.MultisetTurns", spec := "multisetTurns", recurses := true, apart := false }
def MultisetTurnsSaid : Prop := multisetTurnsRow.holds Try.pinned (OpenSpec.ofChange multisetTurnsSpec)

/-- ITS FALSE NEIGHBOUR: 'it returns false'. Refute it at one input. -/
def multisetTurnsWrong : ChangeSpec := { name := "multisetTurns", fn := fun _ => fun
  | [d] => { results := [.lit (.bool false)], args := [d] }
  | _ => none }
def MultisetTurnsWrongFalsely : Prop := multisetTurnsRow.holds Try.pinned (OpenSpec.ofChange multisetTurnsWrong)

/- THE SECOND FORM. 'bulk': how many values and letters a reading holds, each counted each time it is reached (what is shared counts as often as it is met; a slice's spare places count too). A statement '..UptoSaid' is the law's where the arguments, and the package variables that the reading takes, are together of bulk at most 1048576: NARROWER than '..Said'. Prove '..Said' where nothing that the law and all that it calls make is longer than what came in: it says more and counts as full. Else prove '..UptoSaid'. A law counts once. -/
mutual
def uptoBulk {H : Type} : DataW H → Nat
  | .lit (.string bytes) => bytes.length + 1
  | .lit _ => 1
  | .nil => 1
  | .ptr d => uptoBulk d + 1
  | .slice elems spare => uptoBulkAll elems + uptoBulkAll spare + 1
  | .agg parts => uptoBulkAll parts + 1
  | .iface _ d => uptoBulk d + 1
  | .map entries => uptoBulkEntries entries + 1
  | .held _ => 1
def uptoBulkAll {H : Type} : List (DataW H) → Nat
  | [] => 0
  | d :: r => uptoBulk d + uptoBulkAll r
def uptoBulkEntries {H : Type} : List (Lit × DataW H) → Nat
  | [] => 0
  | x :: r => uptoBulkEntry x + uptoBulkEntries r
def uptoBulkEntry {H : Type} : Lit × DataW H → Nat
  | (.string bytes, d) => bytes.length + uptoBulk d + 1
  | (_, d) => uptoBulk d + 1
 end
def uptoSmall : (H : Type) → List (DataW H) → Bool := fun _ ds => decide (uptoBulkAll ds ≤ 1048576)
def OpenSpec.upto (s : _root_.Go.ChangeSpec) : _root_.Go.OpenSpec := { _root_.Go.OpenSpec.ofChange s with cond := some uptoSmall }

/-- 'coverabilitylaw03.MultisetExact', WHERE WHAT IT READS IS OF BULK AT MOST 1048576: true; the input reads as it did. -/
def multisetExactUptoRow : OpenClaim := { program := "ytpnkaicbcbimaaa", sum := "24f8d23d07462f01082d5d04d8de3ac500d5a61ffc782d9f066c966f60aad969", func := "coverability/coverabilitylaw03.MultisetExact", spec := "multisetExact", recurses := true, apart := false, narrowed := true }
def MultisetExactUptoSaid : Prop := multisetExactUptoRow.holds Try.pinned (OpenSpec.upto multisetExactSpec)

/-- 'coverabilitylaw03.MultisetMatches', WHERE WHAT IT READS IS OF BULK AT MOST 1048576: true; the input reads as it did. -/
def multisetMatchesUptoRow : OpenClaim := { program := "ytpnkaicbcbimaaa", sum := "24f8d23d07462f01082d5d04d8de3ac500d5a61ffc782d9f066c966f60aad969", func := "coverability/coverabilitylaw03.MultisetMatches", spec := "multisetMatches", recurses := true, apart := false, narrowed := true }
def MultisetMatchesUptoSaid : Prop := multisetMatchesUptoRow.holds Try.pinned (OpenSpec.upto multisetMatchesSpec)

/-- 'coverabilitylaw03.MultisetGrows', WHERE WHAT IT READS IS OF BULK AT MOST 1048576: true; the input reads as it did. -/
def multisetGrowsUptoRow : OpenClaim := { program := "ytpnkaicbcbimaaa", sum := "24f8d23d07462f01082d5d04d8de3ac500d5a61ffc782d9f066c966f60aad969", func := "coverability/coverabilitylaw03.MultisetGrows", spec := "multisetGrows", recurses := true, apart := false, narrowed := true }
def MultisetGrowsUptoSaid : Prop := multisetGrowsUptoRow.holds Try.pinned (OpenSpec.upto multisetGrowsSpec)

/-- 'coverabilitylaw03.MultisetKoenig', WHERE WHAT IT READS IS OF BULK AT MOST 1048576: true; the input reads as it did. -/
def multisetKoenigUptoRow : OpenClaim := { program := "ytpnkaicbcbimaaa", sum := "24f8d23d07462f01082d5d04d8de3ac500d5a61ffc782d9f066c966f60aad969", func := "coverability/coverabilitylaw03.MultisetKoenig", spec := "multisetKoenig", recurses := true, apart := false, narrowed := true }
def MultisetKoenigUptoSaid : Prop := multisetKoenigUptoRow.holds Try.pinned (OpenSpec.upto multisetKoenigSpec)

/-- 'coverabilitylaw03.MultisetTurns', WHERE WHAT IT READS IS OF BULK AT MOST 1048576: true; the input reads as it did. -/
def multisetTurnsUptoRow : OpenClaim := { program := "ytpnkaicbcbimaaa", sum := "24f8d23d07462f01082d5d04d8de3ac500d5a61ffc782d9f066c966f60aad969", func := "coverability/coverabilitylaw03.MultisetTurns", spec := "multisetTurns", recurses := true, apart := false, narrowed := true }
def MultisetTurnsUptoSaid : Prop := multisetTurnsUptoRow.holds Try.pinned (OpenSpec.upto multisetTurnsSpec)

end Rows
end Go.Proofs.Ytpnkaicbcbimaaa
