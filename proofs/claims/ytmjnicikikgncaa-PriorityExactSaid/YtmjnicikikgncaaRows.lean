/-
  No cell of these rows narrows 'for every input' (looked for: loops, veiled, ifaces, maps, wideKeys, modest, calm, conditions, laid).
  DERIVED. THE GIVEN ROWS OF THIS SEAT. 5 by the template 'for every input the law returns true; each argument reads behind the call as it read before'; 0 by the template 'total and deterministic' (their statements: YtmjnicikikgncaaTotals.lean).
  GIVEN WITH THE SEED: the statements are not yours to turn. If you find one false, say at which input.
  Laid BY PROGRAM, IN A SANDBOX (cutbox-rows.mjs): the forced cells as the released guide's own fill.sh prints them over the translation 25eebb6532c3c692… (all of the seat's roots in one cut). By AI agents, Wed Nov 11 2026. No macro, syntax, notation, axiom, sorry.
-/
import Derived.Test.YtmjnicikikgncaaChecked
import GoSem.Claim
import GoSem.ClaimJoined
import GoSem.ClaimMapViews
import Derived.JoinedTies
import Derived.KernelRfl
namespace Go.Proofs.Ytmjnicikikgncaa
/- THE CELL 'sum', in the pinned program and in every row, IS THE sha256 OF THE DUMP (.gsa) THAT YtmjnicikikgncaaProg.lean LOADS. Nothing in Lean hashes anything: it is a label: what it is worth is what the hold of that sum in a sandbox is worth. -/
noncomputable def Try.pinned : Pinned := { name := "ytmjnicikikgncaa", sum := "25eebb6532c3c6924547c0994b34bf5bd16a8cab81d48fe226d9c0ee2663f494", checked := Try.checked }
namespace Rows
def none {H : Type} : Left H := { results := [], args := [] }

/-- 'coverabilitylaw05.PriorityExact': WHATEVER THE INPUT: true; the input reads as it did. -/
def priorityExactSpec : ChangeSpec := { name := "priorityExact", fn := fun _ => fun
  | [d1, d2, d3, d4, d5, d6] => { results := [.lit (.bool true)], args := [d1, d2, d3, d4, d5, d6] }
  | _ => none }
def priorityExactRow : OpenClaim := { program := "ytmjnicikikgncaa", sum := "25eebb6532c3c6924547c0994b34bf5bd16a8cab81d48fe226d9c0ee2663f494", func := "coverability/coverabilitylaw05.PriorityExact", spec := "priorityExact", unfollowed := true, recurses := true, apart := false }
def PriorityExactSaid : Prop := priorityExactRow.holds Try.pinned (OpenSpec.ofChange priorityExactSpec)

/-- ITS FALSE NEIGHBOUR: 'it returns false'. Refute it at one input. -/
def priorityExactWrong : ChangeSpec := { name := "priorityExact", fn := fun _ => fun
  | [d1, d2, d3, d4, d5, d6] => { results := [.lit (.bool false)], args := [d1, d2, d3, d4, d5, d6] }
  | _ => none }
def PriorityExactWrongFalsely : Prop := priorityExactRow.holds Try.pinned (OpenSpec.ofChange priorityExactWrong)

/-- 'coverabilitylaw05.PriorityDrops': WHATEVER THE INPUT: true; the input reads as it did. -/
def priorityDropsSpec : ChangeSpec := { name := "priorityDrops", fn := fun _ => fun
  | [d] => { results := [.lit (.bool true)], args := [d] }
  | _ => none }
def priorityDropsRow : OpenClaim := { program := "ytmjnicikikgncaa", sum := "25eebb6532c3c6924547c0994b34bf5bd16a8cab81d48fe226d9c0ee2663f494", func := "coverability/coverabilitylaw05.PriorityDrops", spec := "priorityDrops", unfollowed := true, recurses := true, apart := false }
def PriorityDropsSaid : Prop := priorityDropsRow.holds Try.pinned (OpenSpec.ofChange priorityDropsSpec)

/-- ITS FALSE NEIGHBOUR: 'it returns false'. Refute it at one input. -/
def priorityDropsWrong : ChangeSpec := { name := "priorityDrops", fn := fun _ => fun
  | [d] => { results := [.lit (.bool false)], args := [d] }
  | _ => none }
def PriorityDropsWrongFalsely : Prop := priorityDropsRow.holds Try.pinned (OpenSpec.ofChange priorityDropsWrong)

/-- 'coverabilitylaw05.PriorityOrder': WHATEVER THE INPUT: true; the input reads as it did. -/
def priorityOrderSpec : ChangeSpec := { name := "priorityOrder", fn := fun _ => fun
  | [d] => { results := [.lit (.bool true)], args := [d] }
  | _ => none }
def priorityOrderRow : OpenClaim := { program := "ytmjnicikikgncaa", sum := "25eebb6532c3c6924547c0994b34bf5bd16a8cab81d48fe226d9c0ee2663f494", func := "coverability/coverabilitylaw05.PriorityOrder", spec := "priorityOrder", unfollowed := true, recurses := true, apart := false }
def PriorityOrderSaid : Prop := priorityOrderRow.holds Try.pinned (OpenSpec.ofChange priorityOrderSpec)

/-- ITS FALSE NEIGHBOUR: 'it returns false'. Refute it at one input. -/
def priorityOrderWrong : ChangeSpec := { name := "priorityOrder", fn := fun _ => fun
  | [d] => { results := [.lit (.bool false)], args := [d] }
  | _ => none }
def PriorityOrderWrongFalsely : Prop := priorityOrderRow.holds Try.pinned (OpenSpec.ofChange priorityOrderWrong)

/-- 'coverabilitylaw05.PriorityFalls': WHATEVER THE INPUT: true; the input reads as it did. -/
def priorityFallsSpec : ChangeSpec := { name := "priorityFalls", fn := fun _ => fun
  | [d] => { results := [.lit (.bool true)], args := [d] }
  | _ => none }
def priorityFallsRow : OpenClaim := { program := "ytmjnicikikgncaa", sum := "25eebb6532c3c6924547c0994b34bf5bd16a8cab81d48fe226d9c0ee2663f494", func := "coverability/coverabilitylaw05.PriorityFalls", spec := "priorityFalls", unfollowed := true, recurses := true, apart := false }
def PriorityFallsSaid : Prop := priorityFallsRow.holds Try.pinned (OpenSpec.ofChange priorityFallsSpec)

/-- ITS FALSE NEIGHBOUR: 'it returns false'. Refute it at one input. -/
def priorityFallsWrong : ChangeSpec := { name := "priorityFalls", fn := fun _ => fun
  | [d] => { results := [.lit (.bool false)], args := [d] }
  | _ => none }
def PriorityFallsWrongFalsely : Prop := priorityFallsRow.holds Try.pinned (OpenSpec.ofChange priorityFallsWrong)

/-- 'coverabilitylaw05.PriorityJoins': WHATEVER THE INPUT: true; the input reads as it did. -/
def priorityJoinsSpec : ChangeSpec := { name := "priorityJoins", fn := fun _ => fun
  | [d] => { results := [.lit (.bool true)], args := [d] }
  | _ => none }
def priorityJoinsRow : OpenClaim := { program := "ytmjnicikikgncaa", sum := "25eebb6532c3c6924547c0994b34bf5bd16a8cab81d48fe226d9c0ee2663f494", func := "coverability/coverabilitylaw05.PriorityJoins", spec := "priorityJoins", unfollowed := true, recurses := true, apart := false }
def PriorityJoinsSaid : Prop := priorityJoinsRow.holds Try.pinned (OpenSpec.ofChange priorityJoinsSpec)

/-- ITS FALSE NEIGHBOUR: 'it returns false'. Refute it at one input. -/
def priorityJoinsWrong : ChangeSpec := { name := "priorityJoins", fn := fun _ => fun
  | [d] => { results := [.lit (.bool false)], args := [d] }
  | _ => none }
def PriorityJoinsWrongFalsely : Prop := priorityJoinsRow.holds Try.pinned (OpenSpec.ofChange priorityJoinsWrong)

/- THE SECOND FORM. 'bulk': how many values and letters a reading holds, each counted each time it is reached (what is shared counts as often as it is met; a slice's spare places count too). A statement '..UptoSaid' is the law's where the arguments, and the package variables that the reading takes, are together of bulk at most 1048576: NARROWER than '..Said'. Prove '..Said' where nothing that the law and all that it calls make is longer than what came in: it says more and counts as full. Else prove '..UptoSaid'. A law counts once. -/
mutual
def uptoBulk {H : Type} : DataW H → Nat
  | .lit (.string bytes) => bytes.length + 1
  | .lit _ => 1
  | .nil => 1
  | .ptr d => uptoBulk d + 1
  | .slice elems spare => uptoBulkAll elems + uptoBulkAll spare + 1
  | .agg parts => uptoBulkAll parts + 1
  | .iface _ d => uptoBulk d + 1
  | .map entries => uptoBulkEntries entries + 1
  | .held _ => 1
def uptoBulkAll {H : Type} : List (DataW H) → Nat
  | [] => 0
  | d :: r => uptoBulk d + uptoBulkAll r
def uptoBulkEntries {H : Type} : List (Lit × DataW H) → Nat
  | [] => 0
  | x :: r => uptoBulkEntry x + uptoBulkEntries r
def uptoBulkEntry {H : Type} : Lit × DataW H → Nat
  | (.string bytes, d) => bytes.length + uptoBulk d + 1
  | (_, d) => uptoBulk d + 1
 end
def uptoSmall : (H : Type) → List (DataW H) → Bool := fun _ ds => decide (uptoBulkAll ds ≤ 1048576)
def OpenSpec.upto (s : _root_.Go.ChangeSpec) : _root_.Go.OpenSpec := { _root_.Go.OpenSpec.ofChange s with cond := some uptoSmall }

/-- 'coverabilitylaw05.PriorityExact', WHERE WHAT IT READS IS OF BULK AT MOST 1048576: true; the input reads as it did. -/
def priorityExactUptoRow : OpenClaim := { program := "ytmjnicikikgncaa", sum := "25eebb6532c3c6924547c0994b34bf5bd16a8cab81d48fe226d9c0ee2663f494", func := "coverability/coverabilitylaw05.PriorityExact", spec := "priorityExact", unfollowed := true, recurses := true, apart := false, narrowed := true }
def PriorityExactUptoSaid : Prop := priorityExactUptoRow.holds Try.pinned (OpenSpec.upto priorityExactSpec)

/-- 'coverabilitylaw05.PriorityDrops', WHERE WHAT IT READS IS OF BULK AT MOST 1048576: true; the input reads as it did. -/
def priorityDropsUptoRow : OpenClaim := { program := "ytmjnicikikgncaa", sum := "25eebb6532c3c6924547c0994b34bf5bd16a8cab81d48fe226d9c0ee2663f494", func := "coverability/coverabilitylaw05.PriorityDrops", spec := "priorityDrops", unfollowed := true, recurses := true, apart := false, narrowed := true }
def PriorityDropsUptoSaid : Prop := priorityDropsUptoRow.holds Try.pinned (OpenSpec.upto priorityDropsSpec)

/-- 'coverabilitylaw05.PriorityOrder', WHERE WHAT IT READS IS OF BULK AT MOST 1048576: true; the input reads as it did. -/
def priorityOrderUptoRow : OpenClaim := { program := "ytmjnicikikgncaa", sum := "25eebb6532c3c6924547c0994b34bf5bd16a8cab81d48fe226d9c0ee2663f494", func := "coverability/coverabilitylaw05.PriorityOrder", spec := "priorityOrder", unfollowed := true, recurses := true, apart := false, narrowed := true }
def PriorityOrderUptoSaid : Prop := priorityOrderUptoRow.holds Try.pinned (OpenSpec.upto priorityOrderSpec)

/-- 'coverabilitylaw05.PriorityFalls', WHERE WHAT IT READS IS OF BULK AT MOST 1048576: true; the input reads as it did. -/
def priorityFallsUptoRow : OpenClaim := { program := "ytmjnicikikgncaa", sum := "25eebb6532c3c6924547c0994b34bf5bd16a8cab81d48fe226d9c0ee2663f494", func := "coverability/coverabilitylaw05.PriorityFalls", spec := "priorityFalls", unfollowed := true, recurses := true, apart := false, narrowed := true }
def PriorityFallsUptoSaid : Prop := priorityFallsUptoRow.holds Try.pinned (OpenSpec.upto priorityFallsSpec)

/-- 'coverabilitylaw05.PriorityJoins', WHERE WHAT IT READS IS OF BULK AT MOST 1048576: true; the input reads as it did. -/
def priorityJoinsUptoRow : OpenClaim := { program := "ytmjnicikikgncaa", sum := "25eebb6532c3c6924547c0994b34bf5bd16a8cab81d48fe226d9c0ee2663f494", func := "coverability/coverabilitylaw05.PriorityJoins", spec := "priorityJoins", unfollowed := true, recurses := true, apart := false, narrowed := true }
def PriorityJoinsUptoSaid : Prop := priorityJoinsUptoRow.holds Try.pinned (OpenSpec.upto priorityJoinsSpec)

end Rows
end Go.Proofs.Ytmjnicikikgncaa
