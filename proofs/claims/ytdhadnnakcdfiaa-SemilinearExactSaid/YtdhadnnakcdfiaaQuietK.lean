/- Regions that draw their order and whose operations write nothing that there is (their calls may make memory, but hand back one value): one walk of the order of the text. -/
import Derived.Test.YtdhadnnakcdfiaaNow
import Derived.Deep.QuietTactic
namespace Go.Proofs.Ytdhadnnakcdfiaa
set_option linter.unusedVariables false
open Go.RowKit

theorem wp_quietk {P : Program} {id : Nat} {Q : Exit → Act → World → Prop} {a : Act} {w : World} {l0 : List Nat} {l : List Oper} (hm : P.follows .mixedOrders = true) (hB : Region.lexB .any l.toArray = true)
    (h : wpQuiet P l.toArray (fun w' => Keeps l0 w w') (fun a' => ∀ w', Keeps l0 w w' → Q .normal a' w') l a) : (Code.region id l.toArray true).wp P Q a w :=
  wp_region_quiet (C := fun w' => Keeps l0 w w') hm hB ((Keeps.refl l0 w).drew) (by simpa using h)
end Go.Proofs.Ytdhadnnakcdfiaa
