/- A slice of numbers that came in, as a list. -/
import Derived.Test.YtmjnicikikgncaaRep
namespace Go.Proofs.Ytmjnicikikgncaa
set_option linter.unusedVariables false
open Go.RowKit
theorem IsRow.isI {w : World} {a : Option Addr} {len cap : Nat} {zs : List Int} (h : IsRow .i64 w a len cap zs) : IsI w [] (.slice a len cap) (zs.take len) ∧ len = (zs.take len).length := by
  rcases h with ⟨rfl, rfl, rfl, rfl⟩ | ⟨x, rfl, h1, h2, h3, h4, _⟩
  · exact ⟨IsI.nil, rfl⟩
  · have hl : len = (zs.take len).length := by rw [List.length_take]; omega
    refine ⟨IsI.mk hl h1 (fun h => by cases h) fun hn => ⟨x, rfl, by simp, fun i hi => ?_⟩, hl⟩
    have := h4 i (by omega)
    rw [this]
    simp [List.getD_eq_getElem?_getD, List.getElem?_take, hi]
end Go.Proofs.Ytmjnicikikgncaa
