/-
  No cell of these rows narrows 'for every input' (looked for: loops, veiled, ifaces, maps, wideKeys, modest, calm, conditions, laid).
  DERIVED. THE GIVEN ROWS OF THIS SEAT. 5 by the template 'for every input the law returns true; each argument reads behind the call as it read before'; 0 by the template 'total and deterministic' (their statements: YtfhommegkogahaaTotals.lean).
  GIVEN WITH THE SEED: the statements are not yours to turn. If you find one false, say at which input.
  Laid BY PROGRAM, IN A SANDBOX (cutbox-rows.mjs): the forced cells as the released guide's own fill.sh prints them over the translation f6fe6ddcaef9cb5f… (all of the seat's roots in one cut). By AI agents, Wed Nov 11 2026. No macro, syntax, notation, axiom, sorry.
-/
import Derived.Test.YtfhommegkogahaaChecked
import GoSem.Claim
import GoSem.ClaimJoined
import GoSem.ClaimMapViews
import Derived.JoinedTies
import Derived.KernelRfl
namespace Go.Proofs.Ytfhommegkogahaa
/- THE CELL 'sum', in the pinned program and in every row, IS THE sha256 OF THE DUMP (.gsa) THAT YtfhommegkogahaaProg.lean LOADS. Nothing in Lean hashes anything: it is a label: what it is worth is what the hold of that sum in a sandbox is worth. -/
noncomputable def Try.pinned : Pinned := { name := "ytfhommegkogahaa", sum := "f6fe6ddcaef9cb5f2a5f7bfd36530b90c26d43129ac35c273d6771977b686c63", checked := Try.checked }
namespace Rows
def none {H : Type} : Left H := { results := [], args := [] }

/-- 'coverabilitylaw02.WordDrops': WHATEVER THE INPUT: true; the input reads as it did. -/
def wordDropsSpec : ChangeSpec := { name := "wordDrops", fn := fun _ => fun
  | [d] => { results := [.lit (.bool true)], args := [d] }
  | _ => none }
def wordDropsRow : OpenClaim := { program := "ytfhommegkogahaa", sum := "f6fe6ddcaef9cb5f2a5f7bfd36530b90c26d43129ac35c273d6771977b686c63", func := "coverability/coverabilitylaw02.WordDrops", spec := "wordDrops", unfollowed := true, recurses := true, apart := false }
def WordDropsSaid : Prop := wordDropsRow.holds Try.pinned (OpenSpec.ofChange wordDropsSpec)

/-- ITS FALSE NEIGHBOUR: 'it returns false'. Refute it at one input. -/
def wordDropsWrong : ChangeSpec := { name := "wordDrops", fn := fun _ => fun
  | [d] => { results := [.lit (.bool false)], args := [d] }
  | _ => none }
def WordDropsWrongFalsely : Prop := wordDropsRow.holds Try.pinned (OpenSpec.ofChange wordDropsWrong)

/-- 'coverabilitylaw02.WordMerges': WHATEVER THE INPUT: true; the input reads as it did. -/
def wordMergesSpec : ChangeSpec := { name := "wordMerges", fn := fun _ => fun
  | [d] => { results := [.lit (.bool true)], args := [d] }
  | _ => none }
def wordMergesRow : OpenClaim := { program := "ytfhommegkogahaa", sum := "f6fe6ddcaef9cb5f2a5f7bfd36530b90c26d43129ac35c273d6771977b686c63", func := "coverability/coverabilitylaw02.WordMerges", spec := "wordMerges", unfollowed := true, recurses := true, apart := false }
def WordMergesSaid : Prop := wordMergesRow.holds Try.pinned (OpenSpec.ofChange wordMergesSpec)

/-- ITS FALSE NEIGHBOUR: 'it returns false'. Refute it at one input. -/
def wordMergesWrong : ChangeSpec := { name := "wordMerges", fn := fun _ => fun
  | [d] => { results := [.lit (.bool false)], args := [d] }
  | _ => none }
def WordMergesWrongFalsely : Prop := wordMergesRow.holds Try.pinned (OpenSpec.ofChange wordMergesWrong)

/-- 'coverabilitylaw02.WordExact': WHATEVER THE INPUT: true; the input reads as it did. -/
def wordExactSpec : ChangeSpec := { name := "wordExact", fn := fun _ => fun
  | [d1, d2, d3, d4] => { results := [.lit (.bool true)], args := [d1, d2, d3, d4] }
  | _ => none }
def wordExactRow : OpenClaim := { program := "ytfhommegkogahaa", sum := "f6fe6ddcaef9cb5f2a5f7bfd36530b90c26d43129ac35c273d6771977b686c63", func := "coverability/coverabilitylaw02.WordExact", spec := "wordExact", unfollowed := true, recurses := true, apart := false }
def WordExactSaid : Prop := wordExactRow.holds Try.pinned (OpenSpec.ofChange wordExactSpec)

/-- ITS FALSE NEIGHBOUR: 'it returns false'. Refute it at one input. -/
def wordExactWrong : ChangeSpec := { name := "wordExact", fn := fun _ => fun
  | [d1, d2, d3, d4] => { results := [.lit (.bool false)], args := [d1, d2, d3, d4] }
  | _ => none }
def WordExactWrongFalsely : Prop := wordExactRow.holds Try.pinned (OpenSpec.ofChange wordExactWrong)

/-- 'coverabilitylaw02.WordOrder': WHATEVER THE INPUT: true; the input reads as it did. -/
def wordOrderSpec : ChangeSpec := { name := "wordOrder", fn := fun _ => fun
  | [d] => { results := [.lit (.bool true)], args := [d] }
  | _ => none }
def wordOrderRow : OpenClaim := { program := "ytfhommegkogahaa", sum := "f6fe6ddcaef9cb5f2a5f7bfd36530b90c26d43129ac35c273d6771977b686c63", func := "coverability/coverabilitylaw02.WordOrder", spec := "wordOrder", unfollowed := true, recurses := true, apart := false }
def WordOrderSaid : Prop := wordOrderRow.holds Try.pinned (OpenSpec.ofChange wordOrderSpec)

/-- ITS FALSE NEIGHBOUR: 'it returns false'. Refute it at one input. -/
def wordOrderWrong : ChangeSpec := { name := "wordOrder", fn := fun _ => fun
  | [d] => { results := [.lit (.bool false)], args := [d] }
  | _ => none }
def WordOrderWrongFalsely : Prop := wordOrderRow.holds Try.pinned (OpenSpec.ofChange wordOrderWrong)

/-- 'coverabilitylaw02.WordPlaces': WHATEVER THE INPUT: true; the input reads as it did. -/
def wordPlacesSpec : ChangeSpec := { name := "wordPlaces", fn := fun _ => fun
  | [d] => { results := [.lit (.bool true)], args := [d] }
  | _ => none }
def wordPlacesRow : OpenClaim := { program := "ytfhommegkogahaa", sum := "f6fe6ddcaef9cb5f2a5f7bfd36530b90c26d43129ac35c273d6771977b686c63", func := "coverability/coverabilitylaw02.WordPlaces", spec := "wordPlaces", unfollowed := true, recurses := true, apart := false }
def WordPlacesSaid : Prop := wordPlacesRow.holds Try.pinned (OpenSpec.ofChange wordPlacesSpec)

/-- ITS FALSE NEIGHBOUR: 'it returns false'. Refute it at one input. -/
def wordPlacesWrong : ChangeSpec := { name := "wordPlaces", fn := fun _ => fun
  | [d] => { results := [.lit (.bool false)], args := [d] }
  | _ => none }
def WordPlacesWrongFalsely : Prop := wordPlacesRow.holds Try.pinned (OpenSpec.ofChange wordPlacesWrong)

/- THE SECOND FORM. 'bulk': how many values and letters a reading holds, each counted each time it is reached (what is shared counts as often as it is met; a slice's spare places count too). A statement '..UptoSaid' is the law's where the arguments, and the package variables that the reading takes, are together of bulk at most 1048576: NARROWER than '..Said'. Prove '..Said' where nothing that the law and all that it calls make is longer than what came in: it says more and counts as full. Else prove '..UptoSaid'. A law counts once. -/
mutual
def uptoBulk {H : Type} : DataW H → Nat
  | .lit (.string bytes) => bytes.length + 1
  | .lit _ => 1
  | .nil => 1
  | .ptr d => uptoBulk d + 1
  | .slice elems spare => uptoBulkAll elems + uptoBulkAll spare + 1
  | .agg parts => uptoBulkAll parts + 1
  | .iface _ d => uptoBulk d + 1
  | .map entries => uptoBulkEntries entries + 1
  | .held _ => 1
def uptoBulkAll {H : Type} : List (DataW H) → Nat
  | [] => 0
  | d :: r => uptoBulk d + uptoBulkAll r
def uptoBulkEntries {H : Type} : List (Lit × DataW H) → Nat
  | [] => 0
  | x :: r => uptoBulkEntry x + uptoBulkEntries r
def uptoBulkEntry {H : Type} : Lit × DataW H → Nat
  | (.string bytes, d) => bytes.length + uptoBulk d + 1
  | (_, d) => uptoBulk d + 1
 end
def uptoSmall : (H : Type) → List (DataW H) → Bool := fun _ ds => decide (uptoBulkAll ds ≤ 1048576)
def OpenSpec.upto (s : _root_.Go.ChangeSpec) : _root_.Go.OpenSpec := { _root_.Go.OpenSpec.ofChange s with cond := some uptoSmall }

/-- 'coverabilitylaw02.WordDrops', WHERE WHAT IT READS IS OF BULK AT MOST 1048576: true; the input reads as it did. -/
def wordDropsUptoRow : OpenClaim := { program := "ytfhommegkogahaa", sum := "f6fe6ddcaef9cb5f2a5f7bfd36530b90c26d43129ac35c273d6771977b686c63", func := "coverability/coverabilitylaw02.WordDrops", spec := "wordDrops", unfollowed := true, recurses := true, apart := false, narrowed := true }
def WordDropsUptoSaid : Prop := wordDropsUptoRow.holds Try.pinned (OpenSpec.upto wordDropsSpec)

/-- 'coverabilitylaw02.WordMerges', WHERE WHAT IT READS IS OF BULK AT MOST 1048576: true; the input reads as it did. -/
def wordMergesUptoRow : OpenClaim := { program := "ytfhommegkogahaa", sum := "f6fe6ddcaef9cb5f2a5f7bfd36530b90c26d43129ac35c273d6771977b686c63", func := "coverability/coverabilitylaw02.WordMerges", spec := "wordMerges", unfollowed := true, recurses := true, apart := false, narrowed := true }
def WordMergesUptoSaid : Prop := wordMergesUptoRow.holds Try.pinned (OpenSpec.upto wordMergesSpec)

/-- 'coverabilitylaw02.WordExact', WHERE WHAT IT READS IS OF BULK AT MOST 1048576: true; the input reads as it did. -/
def wordExactUptoRow : OpenClaim := { program := "ytfhommegkogahaa", sum := "f6fe6ddcaef9cb5f2a5f7bfd36530b90c26d43129ac35c273d6771977b686c63", func := "coverability/coverabilitylaw02.WordExact", spec := "wordExact", unfollowed := true, recurses := true, apart := false, narrowed := true }
def WordExactUptoSaid : Prop := wordExactUptoRow.holds Try.pinned (OpenSpec.upto wordExactSpec)

/-- 'coverabilitylaw02.WordOrder', WHERE WHAT IT READS IS OF BULK AT MOST 1048576: true; the input reads as it did. -/
def wordOrderUptoRow : OpenClaim := { program := "ytfhommegkogahaa", sum := "f6fe6ddcaef9cb5f2a5f7bfd36530b90c26d43129ac35c273d6771977b686c63", func := "coverability/coverabilitylaw02.WordOrder", spec := "wordOrder", unfollowed := true, recurses := true, apart := false, narrowed := true }
def WordOrderUptoSaid : Prop := wordOrderUptoRow.holds Try.pinned (OpenSpec.upto wordOrderSpec)

/-- 'coverabilitylaw02.WordPlaces', WHERE WHAT IT READS IS OF BULK AT MOST 1048576: true; the input reads as it did. -/
def wordPlacesUptoRow : OpenClaim := { program := "ytfhommegkogahaa", sum := "f6fe6ddcaef9cb5f2a5f7bfd36530b90c26d43129ac35c273d6771977b686c63", func := "coverability/coverabilitylaw02.WordPlaces", spec := "wordPlaces", unfollowed := true, recurses := true, apart := false, narrowed := true }
def WordPlacesUptoSaid : Prop := wordPlacesUptoRow.holds Try.pinned (OpenSpec.upto wordPlacesSpec)

end Rows
end Go.Proofs.Ytfhommegkogahaa
