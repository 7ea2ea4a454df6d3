/-
  DERIVED. GIVEN WITH THE SEED: THE CARDS: each row of YtkbjpglehdhjfaaGreatDoorRows.lean that lists a variable, with what it lists TIED to the program's text (the seventh form; the later family's looks); each row that meets fmt, with fmt's text TOLD by the authors' own Lean function (tested against real Go, not proved from fmt's source: count such statements apart). THE CARD IS WHAT COUNTS. Prove the row's statement (the work); the ties are given (YtkbjpglehdhjfaaGreatDoorTie.lean); close each card by the builder's one call (the guide's Derived/Test/ToyasCard.lean, 'card_holds'). Laid BY PROGRAM, IN A SANDBOX (cutbox-door.mjs). By AI agents, Wed Nov 11 2026. No macro, syntax, notation, axiom, sorry.
-/
import Derived.Test.YtkbjpglehdhjfaaGreatDoorRows
import GoSem.ClaimSeven
namespace Go.Proofs.YtkbjpglehdhjfaaGreatDoor
namespace Rows

/-- THE TIED CARD OF 'coverabilitylaw38.TranslateFails'. -/
def translateFailsCard : Claim7 := { stood := { row := translateFailsRow, standIns := [], harness := (true, "f6d020ef4958c7a799e3b80102cf7a65ad0583bad2521413b792843628d8bdd1"), looks := false }, kinds := [], alts := [], laidByText := true, laidKinds := [.data, .data, .data, .widerDeep, .widerDeep], laidTests := true, laidLooks := .later }
def TranslateFailsCardSaid : Prop := Claim7.holds Tryz.pinned (.plain (OpenSpec.ofChange translateFailsSpec)) translateFailsCard

/-- THE TIED CARD OF 'coverabilitylaw38.TranslateRules'. -/
def translateRulesCard : Claim7 := { stood := { row := translateRulesRow, standIns := [], harness := (true, "f6d020ef4958c7a799e3b80102cf7a65ad0583bad2521413b792843628d8bdd1"), looks := false }, kinds := [], alts := [], laidByText := true, laidKinds := [.data, .data, .data, .widerDeep, .widerDeep], laidTests := true, laidLooks := .later }
def TranslateRulesCardSaid : Prop := Claim7.holds Tryz.pinned (.plain (OpenSpec.ofChange translateRulesSpec)) translateRulesCard

/-- THE TIED CARD OF 'coverabilitylaw38.TranslateRuns'. -/
def translateRunsCard : Claim7 := { stood := { row := translateRunsRow, standIns := [], harness := (true, "f6d020ef4958c7a799e3b80102cf7a65ad0583bad2521413b792843628d8bdd1"), looks := false }, kinds := [], alts := [], laidByText := true, laidKinds := [.data, .data, .data, .widerDeep, .widerDeep], laidTests := true, laidLooks := .later }
def TranslateRunsCardSaid : Prop := Claim7.holds Tryz.pinned (.plain (OpenSpec.ofChange translateRunsSpec)) translateRunsCard

/-- THE TIED CARD OF 'coverabilitylaw38.TranslateBack'. -/
def translateBackCard : Claim7 := { stood := { row := translateBackRow, standIns := [], harness := (true, "f6d020ef4958c7a799e3b80102cf7a65ad0583bad2521413b792843628d8bdd1"), looks := false }, kinds := [], alts := [], laidByText := true, laidKinds := [.data, .data, .data, .widerDeep, .widerDeep], laidTests := true, laidLooks := .later }
def TranslateBackCardSaid : Prop := Claim7.holds Tryz.pinned (.plain (OpenSpec.ofChange translateBackSpec)) translateBackCard

/-- THE TIED CARD OF 'coverabilitylaw38.TranslateSteps'. -/
def translateStepsCard : Claim7 := { stood := { row := translateStepsRow, standIns := [], harness := (true, "f6d020ef4958c7a799e3b80102cf7a65ad0583bad2521413b792843628d8bdd1"), looks := false }, kinds := [], alts := [], laidByText := true, laidKinds := [.data, .data, .data, .widerDeep, .widerDeep], laidTests := true, laidLooks := .later }
def TranslateStepsCardSaid : Prop := Claim7.holds Tryz.pinned (.plain (OpenSpec.ofChange translateStepsSpec)) translateStepsCard

/-- THE SECOND FORM's CARD OF 'coverabilitylaw38.TranslateFails'. -/
def translateFailsUptoCard : Claim7 := { stood := { row := translateFailsUptoRow, standIns := [], harness := (true, "f6d020ef4958c7a799e3b80102cf7a65ad0583bad2521413b792843628d8bdd1"), looks := false }, kinds := [], alts := [], laidByText := true, laidKinds := [.data, .data, .data, .widerDeep, .widerDeep], laidTests := true, laidLooks := .later }
def TranslateFailsUptoCardSaid : Prop := Claim7.holds Tryz.pinned (.plain (OpenSpec.upto translateFailsSpec)) translateFailsUptoCard

/-- THE SECOND FORM's CARD OF 'coverabilitylaw38.TranslateRules'. -/
def translateRulesUptoCard : Claim7 := { stood := { row := translateRulesUptoRow, standIns := [], harness := (true, "f6d020ef4958c7a799e3b80102cf7a65ad0583bad2521413b792843628d8bdd1"), looks := false }, kinds := [], alts := [], laidByText := true, laidKinds := [.data, .data, .data, .widerDeep, .widerDeep], laidTests := true, laidLooks := .later }
def TranslateRulesUptoCardSaid : Prop := Claim7.holds Tryz.pinned (.plain (OpenSpec.upto translateRulesSpec)) translateRulesUptoCard

/-- THE SECOND FORM's CARD OF 'coverabilitylaw38.TranslateRuns'. -/
def translateRunsUptoCard : Claim7 := { stood := { row := translateRunsUptoRow, standIns := [], harness := (true, "f6d020ef4958c7a799e3b80102cf7a65ad0583bad2521413b792843628d8bdd1"), looks := false }, kinds := [], alts := [], laidByText := true, laidKinds := [.data, .data, .data, .widerDeep, .widerDeep], laidTests := true, laidLooks := .later }
def TranslateRunsUptoCardSaid : Prop := Claim7.holds Tryz.pinned (.plain (OpenSpec.upto translateRunsSpec)) translateRunsUptoCard

/-- THE SECOND FORM's CARD OF 'coverabilitylaw38.TranslateBack'. -/
def translateBackUptoCard : Claim7 := { stood := { row := translateBackUptoRow, standIns := [], harness := (true, "f6d020ef4958c7a799e3b80102cf7a65ad0583bad2521413b792843628d8bdd1"), looks := false }, kinds := [], alts := [], laidByText := true, laidKinds := [.data, .data, .data, .widerDeep, .widerDeep], laidTests := true, laidLooks := .later }
def TranslateBackUptoCardSaid : Prop := Claim7.holds Tryz.pinned (.plain (OpenSpec.upto translateBackSpec)) translateBackUptoCard

/-- THE SECOND FORM's CARD OF 'coverabilitylaw38.TranslateSteps'. -/
def translateStepsUptoCard : Claim7 := { stood := { row := translateStepsUptoRow, standIns := [], harness := (true, "f6d020ef4958c7a799e3b80102cf7a65ad0583bad2521413b792843628d8bdd1"), looks := false }, kinds := [], alts := [], laidByText := true, laidKinds := [.data, .data, .data, .widerDeep, .widerDeep], laidTests := true, laidLooks := .later }
def TranslateStepsUptoCardSaid : Prop := Claim7.holds Tryz.pinned (.plain (OpenSpec.upto translateStepsSpec)) translateStepsUptoCard
end Rows
end Go.Proofs.YtkbjpglehdhjfaaGreatDoor
