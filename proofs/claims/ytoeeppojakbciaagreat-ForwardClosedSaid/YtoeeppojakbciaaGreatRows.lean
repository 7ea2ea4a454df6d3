/-
  No cell of these rows narrows 'for every input' (looked for: loops, veiled, ifaces, maps, wideKeys, modest, calm, conditions, laid).
  DERIVED. THE GIVEN ROWS OF THIS SEAT. 3 by the template 'for every input the law returns true; each argument reads behind the call as it read before'; 0 by the template 'total and deterministic' (their statements: YtoeeppojakbciaaGreatTotals.lean).
  GIVEN WITH THE SEED: the statements are not yours to turn. If you find one false, say at which input.
  Laid BY PROGRAM, IN A SANDBOX (cutbox-rows.mjs): the forced cells as the released guide's own fill.sh prints them over the translation f96e71679fa99507… (all of the seat's roots in one cut). By AI agents, Wed Nov 11 2026. No macro, syntax, notation, axiom, sorry.
-/
import Derived.Test.YtoeeppojakbciaaGreatChecked
import GoSem.Claim
import GoSem.ClaimJoined
import GoSem.ClaimMapViews
import Derived.JoinedTies
import Derived.KernelRfl
namespace Go.Proofs.YtoeeppojakbciaaGreat
/- THE CELL 'sum', in the pinned program and in every row, IS THE sha256 OF THE DUMP (.gsa) THAT YtoeeppojakbciaaGreatProg.lean LOADS. Nothing in Lean hashes anything: it is a label: what it is worth is what the hold of that sum in a sandbox is worth. -/
noncomputable def Tryz.pinned : Pinned := { name := "ytoeeppojakbciaagreat", sum := "f96e71679fa9950777023dcd74e0564a7f3e140f883d471078cc945df3986a56", checked := Tryz.checked }
namespace Rows
def none {H : Type} : Left H := { results := [], args := [] }

/-- 'coverabilitylaw28.ForwardCovers': WHATEVER THE INPUT: true; the input reads as it did. -/
def forwardCoversSpec : ChangeSpec := { name := "forwardCovers", fn := fun _ => fun
  | [d] => { results := [.lit (.bool true)], args := [d] }
  | _ => none }
def forwardCoversRow : OpenClaim := { program := "ytoeeppojakbciaagreat", sum := "f96e71679fa9950777023dcd74e0564a7f3e140f883d471078cc945df3986a56", func := "coverability/coverabilitylaw28.ForwardCovers", spec := "forwardCovers", unfollowed := true, recurses := true, apart := false }
def ForwardCoversSaid : Prop := forwardCoversRow.holds Tryz.pinned (OpenSpec.ofChange forwardCoversSpec)

/-- ITS FALSE NEIGHBOUR: 'it returns false'. Refute it at one input. -/
def forwardCoversWrong : ChangeSpec := { name := "forwardCovers", fn := fun _ => fun
  | [d] => { results := [.lit (.bool false)], args := [d] }
  | _ => none }
def ForwardCoversWrongFalsely : Prop := forwardCoversRow.holds Tryz.pinned (OpenSpec.ofChange forwardCoversWrong)

/-- 'coverabilitylaw28.ForwardPaths': WHATEVER THE INPUT: true; the input reads as it did. -/
def forwardPathsSpec : ChangeSpec := { name := "forwardPaths", fn := fun _ => fun
  | [d] => { results := [.lit (.bool true)], args := [d] }
  | _ => none }
def forwardPathsRow : OpenClaim := { program := "ytoeeppojakbciaagreat", sum := "f96e71679fa9950777023dcd74e0564a7f3e140f883d471078cc945df3986a56", func := "coverability/coverabilitylaw28.ForwardPaths", spec := "forwardPaths", unfollowed := true, recurses := true, apart := false }
def ForwardPathsSaid : Prop := forwardPathsRow.holds Tryz.pinned (OpenSpec.ofChange forwardPathsSpec)

/-- ITS FALSE NEIGHBOUR: 'it returns false'. Refute it at one input. -/
def forwardPathsWrong : ChangeSpec := { name := "forwardPaths", fn := fun _ => fun
  | [d] => { results := [.lit (.bool false)], args := [d] }
  | _ => none }
def ForwardPathsWrongFalsely : Prop := forwardPathsRow.holds Tryz.pinned (OpenSpec.ofChange forwardPathsWrong)

/-- 'coverabilitylaw28.ForwardClosed': WHATEVER THE INPUT: true; the input reads as it did. -/
def forwardClosedSpec : ChangeSpec := { name := "forwardClosed", fn := fun _ => fun
  | [d] => { results := [.lit (.bool true)], args := [d] }
  | _ => none }
def forwardClosedRow : OpenClaim := { program := "ytoeeppojakbciaagreat", sum := "f96e71679fa9950777023dcd74e0564a7f3e140f883d471078cc945df3986a56", func := "coverability/coverabilitylaw28.ForwardClosed", spec := "forwardClosed", unfollowed := true, recurses := true, apart := false }
def ForwardClosedSaid : Prop := forwardClosedRow.holds Tryz.pinned (OpenSpec.ofChange forwardClosedSpec)

/-- ITS FALSE NEIGHBOUR: 'it returns false'. Refute it at one input. -/
def forwardClosedWrong : ChangeSpec := { name := "forwardClosed", fn := fun _ => fun
  | [d] => { results := [.lit (.bool false)], args := [d] }
  | _ => none }
def ForwardClosedWrongFalsely : Prop := forwardClosedRow.holds Tryz.pinned (OpenSpec.ofChange forwardClosedWrong)

/- THE SECOND FORM. 'bulk': how many values and letters a reading holds, each counted each time it is reached (what is shared counts as often as it is met; a slice's spare places count too). A statement '..UptoSaid' is the law's where the arguments, and the package variables that the reading takes, are together of bulk at most 1048576: NARROWER than '..Said'. Prove '..Said' where nothing that the law and all that it calls make is longer than what came in: it says more and counts as full. Else prove '..UptoSaid'. A law counts once. -/
mutual
def uptoBulk {H : Type} : DataW H → Nat
  | .lit (.string bytes) => bytes.length + 1
  | .lit _ => 1
  | .nil => 1
  | .ptr d => uptoBulk d + 1
  | .slice elems spare => uptoBulkAll elems + uptoBulkAll spare + 1
  | .agg parts => uptoBulkAll parts + 1
  | .iface _ d => uptoBulk d + 1
  | .map entries => uptoBulkEntries entries + 1
  | .held _ => 1
def uptoBulkAll {H : Type} : List (DataW H) → Nat
  | [] => 0
  | d :: r => uptoBulk d + uptoBulkAll r
def uptoBulkEntries {H : Type} : List (Lit × DataW H) → Nat
  | [] => 0
  | x :: r => uptoBulkEntry x + uptoBulkEntries r
def uptoBulkEntry {H : Type} : Lit × DataW H → Nat
  | (.string bytes, d) => bytes.length + uptoBulk d + 1
  | (_, d) => uptoBulk d + 1
 end
def uptoSmall : (H : Type) → List (DataW H) → Bool := fun _ ds => decide (uptoBulkAll ds ≤ 1048576)
def OpenSpec.upto (s : _root_.Go.ChangeSpec) : _root_.Go.OpenSpec := { _root_.Go.OpenSpec.ofChange s with cond := some uptoSmall }

/-- 'coverabilitylaw28.ForwardCovers', WHERE WHAT IT READS IS OF BULK AT MOST 1048576: true; the input reads as it did. -/
def forwardCoversUptoRow : OpenClaim := { program := "ytoeeppojakbciaagreat", sum := "f96e71679fa9950777023dcd74e0564a7f3e140f883d471078cc945df3986a56", func := "coverability/coverabilitylaw28.ForwardCovers", spec := "forwardCovers", unfollowed := true, recurses := true, apart := false, narrowed := true }
def ForwardCoversUptoSaid : Prop := forwardCoversUptoRow.holds Tryz.pinned (OpenSpec.upto forwardCoversSpec)

/-- 'coverabilitylaw28.ForwardPaths', WHERE WHAT IT READS IS OF BULK AT MOST 1048576: true; the input reads as it did. -/
def forwardPathsUptoRow : OpenClaim := { program := "ytoeeppojakbciaagreat", sum := "f96e71679fa9950777023dcd74e0564a7f3e140f883d471078cc945df3986a56", func := "coverability/coverabilitylaw28.ForwardPaths", spec := "forwardPaths", unfollowed := true, recurses := true, apart := false, narrowed := true }
def ForwardPathsUptoSaid : Prop := forwardPathsUptoRow.holds Tryz.pinned (OpenSpec.upto forwardPathsSpec)

/-- 'coverabilitylaw28.ForwardClosed', WHERE WHAT IT READS IS OF BULK AT MOST 1048576: true; the input reads as it did. -/
def forwardClosedUptoRow : OpenClaim := { program := "ytoeeppojakbciaagreat", sum := "f96e71679fa9950777023dcd74e0564a7f3e140f883d471078cc945df3986a56", func := "coverability/coverabilitylaw28.ForwardClosed", spec := "forwardClosed", unfollowed := true, recurses := true, apart := false, narrowed := true }
def ForwardClosedUptoSaid : Prop := forwardClosedUptoRow.holds Tryz.pinned (OpenSpec.upto forwardClosedSpec)

end Rows
end Go.Proofs.YtoeeppojakbciaaGreat
