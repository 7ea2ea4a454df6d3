/-
  NARROWER THAN 'FOR EVERY INPUT', by the rows' own cells (each row's printed sentence says how): TranslateFails: laid · TranslateRules: laid · TranslateRuns: laid · TranslateBack: laid · TranslateSteps: loops, laid.
  DERIVED. THE GIVEN ROWS OF THIS SEAT. 5 by the template 'for every input the law returns true; each argument reads behind the call as it read before'; 0 by the template 'total and deterministic' (their statements: YtkbjpglehdhjfaaGreatDoorTotals.lean).
  GIVEN WITH THE SEED: the statements are not yours to turn. If you find one false, say at which input.
  Laid BY PROGRAM, IN A SANDBOX (cutbox-rows.mjs): the forced cells as the released guide's own fill.sh prints them over the translation 64ce9cdca4303e77… (all of the seat's roots in one cut). By AI agents, Wed Nov 11 2026. No macro, syntax, notation, axiom, sorry.
-/
import Derived.Test.YtkbjpglehdhjfaaGreatDoorChecked
import GoSem.Claim
import GoSem.ClaimJoined
import GoSem.ClaimMapViews
import Derived.JoinedTies
import Derived.KernelRfl
namespace Go.Proofs.YtkbjpglehdhjfaaGreatDoor
/- THE CELL 'sum', in the pinned program and in every row, IS THE sha256 OF THE DUMP (.gsa) THAT YtkbjpglehdhjfaaGreatDoorProg.lean LOADS. Nothing in Lean hashes anything: it is a label: what it is worth is what the hold of that sum in a sandbox is worth. -/
noncomputable def Tryz.pinned : Pinned := { name := "ytkbjpglehdhjfaagreatdoor", sum := "64ce9cdca4303e77927dd0696bb33eaec912237b1130ca5ddf29851ae7b4fc1e", checked := Tryz.checked }
namespace Rows
def none {H : Type} : Left H := { results := [], args := [] }

/- WHAT THE LISTED PACKAGE-LEVEL VARIABLES READ AS WHEN THE CALL BEGINS. Each datum BY PROGRAM (the guide's laid-datum.mjs) off the statement by which the dump's own 'gosem.cut.vars' lays the variable. In a bare row this is a premise. The card (YtkbjpglehdhjfaaGreatDoorCards.lean) ties it to the program's text. -/
def laid_math_bits_deBruijn32tab {H : Type} : DataW H := .agg [.lit (.int .u8 0), .lit (.int .u8 1), .lit (.int .u8 28), .lit (.int .u8 2), .lit (.int .u8 29), .lit (.int .u8 14), .lit (.int .u8 24), .lit (.int .u8 3), .lit (.int .u8 30), .lit (.int .u8 22), .lit (.int .u8 20), .lit (.int .u8 15), .lit (.int .u8 25), .lit (.int .u8 17), .lit (.int .u8 4), .lit (.int .u8 8), .lit (.int .u8 31), .lit (.int .u8 27), .lit (.int .u8 13), .lit (.int .u8 23), .lit (.int .u8 21), .lit (.int .u8 19), .lit (.int .u8 16), .lit (.int .u8 7), .lit (.int .u8 26), .lit (.int .u8 12), .lit (.int .u8 18), .lit (.int .u8 6), .lit (.int .u8 11), .lit (.int .u8 5), .lit (.int .u8 10), .lit (.int .u8 9)]
def laid_math_bits_deBruijn64tab {H : Type} : DataW H := .agg [.lit (.int .u8 0), .lit (.int .u8 1), .lit (.int .u8 56), .lit (.int .u8 2), .lit (.int .u8 57), .lit (.int .u8 49), .lit (.int .u8 28), .lit (.int .u8 3), .lit (.int .u8 61), .lit (.int .u8 58), .lit (.int .u8 42), .lit (.int .u8 50), .lit (.int .u8 38), .lit (.int .u8 29), .lit (.int .u8 17), .lit (.int .u8 4), .lit (.int .u8 62), .lit (.int .u8 47), .lit (.int .u8 59), .lit (.int .u8 36), .lit (.int .u8 45), .lit (.int .u8 43), .lit (.int .u8 51), .lit (.int .u8 22), .lit (.int .u8 53), .lit (.int .u8 39), .lit (.int .u8 33), .lit (.int .u8 30), .lit (.int .u8 24), .lit (.int .u8 18), .lit (.int .u8 12), .lit (.int .u8 5), .lit (.int .u8 63), .lit (.int .u8 55), .lit (.int .u8 48), .lit (.int .u8 27), .lit (.int .u8 60), .lit (.int .u8 41), .lit (.int .u8 37), .lit (.int .u8 16), .lit (.int .u8 46), .lit (.int .u8 35), .lit (.int .u8 44), .lit (.int .u8 21), .lit (.int .u8 52), .lit (.int .u8 32), .lit (.int .u8 23), .lit (.int .u8 11), .lit (.int .u8 54), .lit (.int .u8 26), .lit (.int .u8 40), .lit (.int .u8 15), .lit (.int .u8 34), .lit (.int .u8 20), .lit (.int .u8 31), .lit (.int .u8 10), .lit (.int .u8 25), .lit (.int .u8 14), .lit (.int .u8 19), .lit (.int .u8 9), .lit (.int .u8 13), .lit (.int .u8 8), .lit (.int .u8 7), .lit (.int .u8 6)]
def laid_internal_strconv_uint64pow10 {H : Type} : DataW H := .agg [.lit (.int .u64 1), .lit (.int .u64 10), .lit (.int .u64 100), .lit (.int .u64 1000), .lit (.int .u64 10000), .lit (.int .u64 100000), .lit (.int .u64 1000000), .lit (.int .u64 10000000), .lit (.int .u64 100000000), .lit (.int .u64 1000000000), .lit (.int .u64 10000000000), .lit (.int .u64 100000000000), .lit (.int .u64 1000000000000), .lit (.int .u64 10000000000000), .lit (.int .u64 100000000000000), .lit (.int .u64 1000000000000000), .lit (.int .u64 10000000000000000), .lit (.int .u64 100000000000000000), .lit (.int .u64 1000000000000000000), .lit (.int .u64 10000000000000000000)]
def laid_coverability_program_words {H : Type} : DataW H := .agg [.agg [.lit (.string []), .lit (.int .i64 0)], .agg [.lit (.string [115, 101, 116]), .lit (.int .i64 1)], .agg [.lit (.string [119, 104, 101, 110]), .lit (.int .i64 1)], .agg [.lit (.string [106, 117, 109, 112]), .lit (.int .i64 2)], .agg [.lit (.string [109, 97, 121, 98, 101]), .lit (.int .i64 2)], .agg [.lit (.string [115, 112, 97, 119, 110]), .lit (.int .i64 3)], .agg [.lit (.string [115, 116, 111, 112]), .lit (.int .i64 0)], .agg [.lit (.string [102, 97, 105, 108]), .lit (.int .i64 0)]]
def laid_coverability_program_reserved {H : Type} : DataW H := .slice [.lit (.string [118, 97, 108, 117, 101, 115]), .lit (.string [116, 104, 114, 101, 97, 100]), .lit (.string [101, 110, 100])] []

/-- 'coverabilitylaw38.TranslateFails': WHATEVER THE INPUT: true; the input reads as it did. -/
def translateFailsSpec : ChangeSpec := { name := "translateFails", fn := fun _ => fun
  | [d] => { results := [.lit (.bool true)], args := [d] }
  | _ => none }
def translateFailsRow : OpenClaim := { program := "ytkbjpglehdhjfaagreatdoor", sum := "64ce9cdca4303e77927dd0696bb33eaec912237b1130ca5ddf29851ae7b4fc1e", func := "coverability/coverabilitylaw38.TranslateFails", spec := "translateFails", unfollowed := true, recurses := true, named := ["coverability/program.reserved", "coverability/program.words", "internal/strconv.uint64pow10", "math/bits.deBruijn32tab", "math/bits.deBruijn64tab"], apart := false, laid := [("math/bits.deBruijn32tab", laid_math_bits_deBruijn32tab), ("math/bits.deBruijn64tab", laid_math_bits_deBruijn64tab), ("internal/strconv.uint64pow10", laid_internal_strconv_uint64pow10), ("coverability/program.words", laid_coverability_program_words), ("coverability/program.reserved", laid_coverability_program_reserved)] }
def TranslateFailsSaid : Prop := translateFailsRow.holds Tryz.pinned (OpenSpec.ofChange translateFailsSpec)

/-- ITS FALSE NEIGHBOUR: 'it returns false'. Refute it at one input. -/
def translateFailsWrong : ChangeSpec := { name := "translateFails", fn := fun _ => fun
  | [d] => { results := [.lit (.bool false)], args := [d] }
  | _ => none }
def TranslateFailsWrongFalsely : Prop := translateFailsRow.holds Tryz.pinned (OpenSpec.ofChange translateFailsWrong)

/-- 'coverabilitylaw38.TranslateRules': WHATEVER THE INPUT: true; the input reads as it did. -/
def translateRulesSpec : ChangeSpec := { name := "translateRules", fn := fun _ => fun
  | [d] => { results := [.lit (.bool true)], args := [d] }
  | _ => none }
def translateRulesRow : OpenClaim := { program := "ytkbjpglehdhjfaagreatdoor", sum := "64ce9cdca4303e77927dd0696bb33eaec912237b1130ca5ddf29851ae7b4fc1e", func := "coverability/coverabilitylaw38.TranslateRules", spec := "translateRules", unfollowed := true, recurses := true, named := ["coverability/program.reserved", "coverability/program.words", "internal/strconv.uint64pow10", "math/bits.deBruijn32tab", "math/bits.deBruijn64tab"], apart := false, laid := [("math/bits.deBruijn32tab", laid_math_bits_deBruijn32tab), ("math/bits.deBruijn64tab", laid_math_bits_deBruijn64tab), ("internal/strconv.uint64pow10", laid_internal_strconv_uint64pow10), ("coverability/program.words", laid_coverability_program_words), ("coverability/program.reserved", laid_coverability_program_reserved)] }
def TranslateRulesSaid : Prop := translateRulesRow.holds Tryz.pinned (OpenSpec.ofChange translateRulesSpec)

/-- ITS FALSE NEIGHBOUR: 'it returns false'. Refute it at one input. -/
def translateRulesWrong : ChangeSpec := { name := "translateRules", fn := fun _ => fun
  | [d] => { results := [.lit (.bool false)], args := [d] }
  | _ => none }
def TranslateRulesWrongFalsely : Prop := translateRulesRow.holds Tryz.pinned (OpenSpec.ofChange translateRulesWrong)

/-- 'coverabilitylaw38.TranslateRuns': WHATEVER THE INPUT: true; the input reads as it did. -/
def translateRunsSpec : ChangeSpec := { name := "translateRuns", fn := fun _ => fun
  | [d] => { results := [.lit (.bool true)], args := [d] }
  | _ => none }
def translateRunsRow : OpenClaim := { program := "ytkbjpglehdhjfaagreatdoor", sum := "64ce9cdca4303e77927dd0696bb33eaec912237b1130ca5ddf29851ae7b4fc1e", func := "coverability/coverabilitylaw38.TranslateRuns", spec := "translateRuns", unfollowed := true, recurses := true, named := ["coverability/program.reserved", "coverability/program.words", "internal/strconv.uint64pow10", "math/bits.deBruijn32tab", "math/bits.deBruijn64tab"], apart := false, laid := [("math/bits.deBruijn32tab", laid_math_bits_deBruijn32tab), ("math/bits.deBruijn64tab", laid_math_bits_deBruijn64tab), ("internal/strconv.uint64pow10", laid_internal_strconv_uint64pow10), ("coverability/program.words", laid_coverability_program_words), ("coverability/program.reserved", laid_coverability_program_reserved)] }
def TranslateRunsSaid : Prop := translateRunsRow.holds Tryz.pinned (OpenSpec.ofChange translateRunsSpec)

/-- ITS FALSE NEIGHBOUR: 'it returns false'. Refute it at one input. -/
def translateRunsWrong : ChangeSpec := { name := "translateRuns", fn := fun _ => fun
  | [d] => { results := [.lit (.bool false)], args := [d] }
  | _ => none }
def TranslateRunsWrongFalsely : Prop := translateRunsRow.holds Tryz.pinned (OpenSpec.ofChange translateRunsWrong)

/-- 'coverabilitylaw38.TranslateBack': WHATEVER THE INPUT: true; the input reads as it did. -/
def translateBackSpec : ChangeSpec := { name := "translateBack", fn := fun _ => fun
  | [d] => { results := [.lit (.bool true)], args := [d] }
  | _ => none }
def translateBackRow : OpenClaim := { program := "ytkbjpglehdhjfaagreatdoor", sum := "64ce9cdca4303e77927dd0696bb33eaec912237b1130ca5ddf29851ae7b4fc1e", func := "coverability/coverabilitylaw38.TranslateBack", spec := "translateBack", unfollowed := true, recurses := true, named := ["coverability/program.reserved", "coverability/program.words", "internal/strconv.uint64pow10", "math/bits.deBruijn32tab", "math/bits.deBruijn64tab"], apart := false, laid := [("math/bits.deBruijn32tab", laid_math_bits_deBruijn32tab), ("math/bits.deBruijn64tab", laid_math_bits_deBruijn64tab), ("internal/strconv.uint64pow10", laid_internal_strconv_uint64pow10), ("coverability/program.words", laid_coverability_program_words), ("coverability/program.reserved", laid_coverability_program_reserved)] }
def TranslateBackSaid : Prop := translateBackRow.holds Tryz.pinned (OpenSpec.ofChange translateBackSpec)

/-- ITS FALSE NEIGHBOUR: 'it returns false'. Refute it at one input. -/
def translateBackWrong : ChangeSpec := { name := "translateBack", fn := fun _ => fun
  | [d] => { results := [.lit (.bool false)], args := [d] }
  | _ => none }
def TranslateBackWrongFalsely : Prop := translateBackRow.holds Tryz.pinned (OpenSpec.ofChange translateBackWrong)

/-- 'coverabilitylaw38.TranslateSteps': WHATEVER THE INPUT: true; the input reads as it did. -/
def translateStepsSpec : ChangeSpec := { name := "translateSteps", fn := fun _ => fun
  | [d1, d2, d3, d4, d5] => { results := [.lit (.bool true)], args := [d1, d2, d3, d4, d5] }
  | _ => none }
def translateStepsRow : OpenClaim := { program := "ytkbjpglehdhjfaagreatdoor", sum := "64ce9cdca4303e77927dd0696bb33eaec912237b1130ca5ddf29851ae7b4fc1e", func := "coverability/coverabilitylaw38.TranslateSteps", spec := "translateSteps", unfollowed := true, recurses := true, named := ["coverability/program.reserved", "coverability/program.words", "internal/strconv.uint64pow10", "math/bits.deBruijn32tab", "math/bits.deBruijn64tab"], loops := true, apart := false, laid := [("math/bits.deBruijn32tab", laid_math_bits_deBruijn32tab), ("math/bits.deBruijn64tab", laid_math_bits_deBruijn64tab), ("internal/strconv.uint64pow10", laid_internal_strconv_uint64pow10), ("coverability/program.words", laid_coverability_program_words), ("coverability/program.reserved", laid_coverability_program_reserved)] }
def TranslateStepsSaid : Prop := translateStepsRow.holds Tryz.pinned (OpenSpec.ofChange translateStepsSpec)

/-- ITS FALSE NEIGHBOUR: 'it returns false'. Refute it at one input. -/
def translateStepsWrong : ChangeSpec := { name := "translateSteps", fn := fun _ => fun
  | [d1, d2, d3, d4, d5] => { results := [.lit (.bool false)], args := [d1, d2, d3, d4, d5] }
  | _ => none }
def TranslateStepsWrongFalsely : Prop := translateStepsRow.holds Tryz.pinned (OpenSpec.ofChange translateStepsWrong)

/- THE SECOND FORM. 'bulk': how many values and letters a reading holds, each counted each time it is reached (what is shared counts as often as it is met; a slice's spare places count too). A statement '..UptoSaid' is the law's where the arguments, and the package variables that the reading takes, are together of bulk at most 1048576: NARROWER than '..Said'. Prove '..Said' where nothing that the law and all that it calls make is longer than what came in: it says more and counts as full. Else prove '..UptoSaid'. A law counts once. -/
mutual
def uptoBulk {H : Type} : DataW H → Nat
  | .lit (.string bytes) => bytes.length + 1
  | .lit _ => 1
  | .nil => 1
  | .ptr d => uptoBulk d + 1
  | .slice elems spare => uptoBulkAll elems + uptoBulkAll spare + 1
  | .agg parts => uptoBulkAll parts + 1
  | .iface _ d => uptoBulk d + 1
  | .map entries => uptoBulkEntries entries + 1
  | .held _ => 1
def uptoBulkAll {H : Type} : List (DataW H) → Nat
  | [] => 0
  | d :: r => uptoBulk d + uptoBulkAll r
def uptoBulkEntries {H : Type} : List (Lit × DataW H) → Nat
  | [] => 0
  | x :: r => uptoBulkEntry x + uptoBulkEntries r
def uptoBulkEntry {H : Type} : Lit × DataW H → Nat
  | (.string bytes, d) => bytes.length + uptoBulk d + 1
  | (_, d) => uptoBulk d + 1
 end
def uptoSmall : (H : Type) → List (DataW H) → Bool := fun _ ds => decide (uptoBulkAll ds ≤ 1048576)
def OpenSpec.upto (s : _root_.Go.ChangeSpec) : _root_.Go.OpenSpec := { _root_.Go.OpenSpec.ofChange s with cond := some uptoSmall }

/-- 'coverabilitylaw38.TranslateFails', WHERE WHAT IT READS IS OF BULK AT MOST 1048576: true; the input reads as it did. -/
def translateFailsUptoRow : OpenClaim := { program := "ytkbjpglehdhjfaagreatdoor", sum := "64ce9cdca4303e77927dd0696bb33eaec912237b1130ca5ddf29851ae7b4fc1e", func := "coverability/coverabilitylaw38.TranslateFails", spec := "translateFails", unfollowed := true, recurses := true, named := ["coverability/program.reserved", "coverability/program.words", "internal/strconv.uint64pow10", "math/bits.deBruijn32tab", "math/bits.deBruijn64tab"], apart := false, laid := [("math/bits.deBruijn32tab", laid_math_bits_deBruijn32tab), ("math/bits.deBruijn64tab", laid_math_bits_deBruijn64tab), ("internal/strconv.uint64pow10", laid_internal_strconv_uint64pow10), ("coverability/program.words", laid_coverability_program_words), ("coverability/program.reserved", laid_coverability_program_reserved)], narrowed := true }
def TranslateFailsUptoSaid : Prop := translateFailsUptoRow.holds Tryz.pinned (OpenSpec.upto translateFailsSpec)

/-- 'coverabilitylaw38.TranslateRules', WHERE WHAT IT READS IS OF BULK AT MOST 1048576: true; the input reads as it did. -/
def translateRulesUptoRow : OpenClaim := { program := "ytkbjpglehdhjfaagreatdoor", sum := "64ce9cdca4303e77927dd0696bb33eaec912237b1130ca5ddf29851ae7b4fc1e", func := "coverability/coverabilitylaw38.TranslateRules", spec := "translateRules", unfollowed := true, recurses := true, named := ["coverability/program.reserved", "coverability/program.words", "internal/strconv.uint64pow10", "math/bits.deBruijn32tab", "math/bits.deBruijn64tab"], apart := false, laid := [("math/bits.deBruijn32tab", laid_math_bits_deBruijn32tab), ("math/bits.deBruijn64tab", laid_math_bits_deBruijn64tab), ("internal/strconv.uint64pow10", laid_internal_strconv_uint64pow10), ("coverability/program.words", laid_coverability_program_words), ("coverability/program.reserved", laid_coverability_program_reserved)], narrowed := true }
def TranslateRulesUptoSaid : Prop := translateRulesUptoRow.holds Tryz.pinned (OpenSpec.upto translateRulesSpec)

/-- 'coverabilitylaw38.TranslateRuns', WHERE WHAT IT READS IS OF BULK AT MOST 1048576: true; the input reads as it did. -/
def translateRunsUptoRow : OpenClaim := { program := "ytkbjpglehdhjfaagreatdoor", sum := "64ce9cdca4303e77927dd0696bb33eaec912237b1130ca5ddf29851ae7b4fc1e", func := "coverability/coverabilitylaw38.TranslateRuns", spec := "translateRuns", unfollowed := true, recurses := true, named := ["coverability/program.reserved", "coverability/program.words", "internal/strconv.uint64pow10", "math/bits.deBruijn32tab", "math/bits.deBruijn64tab"], apart := false, laid := [("math/bits.deBruijn32tab", laid_math_bits_deBruijn32tab), ("math/bits.deBruijn64tab", laid_math_bits_deBruijn64tab), ("internal/strconv.uint64pow10", laid_internal_strconv_uint64pow10), ("coverability/program.words", laid_coverability_program_words), ("coverability/program.reserved", laid_coverability_program_reserved)], narrowed := true }
def TranslateRunsUptoSaid : Prop := translateRunsUptoRow.holds Tryz.pinned (OpenSpec.upto translateRunsSpec)

/-- 'coverabilitylaw38.TranslateBack', WHERE WHAT IT READS IS OF BULK AT MOST 1048576: true; the input reads as it did. -/
def translateBackUptoRow : OpenClaim := { program := "ytkbjpglehdhjfaagreatdoor", sum := "64ce9cdca4303e77927dd0696bb33eaec912237b1130ca5ddf29851ae7b4fc1e", func := "coverability/coverabilitylaw38.TranslateBack", spec := "translateBack", unfollowed := true, recurses := true, named := ["coverability/program.reserved", "coverability/program.words", "internal/strconv.uint64pow10", "math/bits.deBruijn32tab", "math/bits.deBruijn64tab"], apart := false, laid := [("math/bits.deBruijn32tab", laid_math_bits_deBruijn32tab), ("math/bits.deBruijn64tab", laid_math_bits_deBruijn64tab), ("internal/strconv.uint64pow10", laid_internal_strconv_uint64pow10), ("coverability/program.words", laid_coverability_program_words), ("coverability/program.reserved", laid_coverability_program_reserved)], narrowed := true }
def TranslateBackUptoSaid : Prop := translateBackUptoRow.holds Tryz.pinned (OpenSpec.upto translateBackSpec)

/-- 'coverabilitylaw38.TranslateSteps', WHERE WHAT IT READS IS OF BULK AT MOST 1048576: true; the input reads as it did. -/
def translateStepsUptoRow : OpenClaim := { program := "ytkbjpglehdhjfaagreatdoor", sum := "64ce9cdca4303e77927dd0696bb33eaec912237b1130ca5ddf29851ae7b4fc1e", func := "coverability/coverabilitylaw38.TranslateSteps", spec := "translateSteps", unfollowed := true, recurses := true, named := ["coverability/program.reserved", "coverability/program.words", "internal/strconv.uint64pow10", "math/bits.deBruijn32tab", "math/bits.deBruijn64tab"], loops := true, apart := false, laid := [("math/bits.deBruijn32tab", laid_math_bits_deBruijn32tab), ("math/bits.deBruijn64tab", laid_math_bits_deBruijn64tab), ("internal/strconv.uint64pow10", laid_internal_strconv_uint64pow10), ("coverability/program.words", laid_coverability_program_words), ("coverability/program.reserved", laid_coverability_program_reserved)], narrowed := true }
def TranslateStepsUptoSaid : Prop := translateStepsUptoRow.holds Tryz.pinned (OpenSpec.upto translateStepsSpec)

end Rows
end Go.Proofs.YtkbjpglehdhjfaaGreatDoor
