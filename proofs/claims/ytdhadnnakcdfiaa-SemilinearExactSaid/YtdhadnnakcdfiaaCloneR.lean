/- slices.Clone at ints, in the words of Rep; rows of ints as blocks. -/
import Derived.Test.YtdhadnnakcdfiaaCloneI
import Derived.Test.YtdhadnnakcdfiaaOwnI
namespace Go.Proofs.Ytdhadnnakcdfiaa
set_option linter.unusedVariables false
open Go.RowKit

theorem clone_is {w : World} {l : List Nat} {v : Value} {xs : List Int} (h : IsI w l v xs) (hn : xs.length ≤ 1000000) : Calls Try.prog 39 #[v] w (CloPost l xs w) := by
  obtain ⟨A, c, rfl, hc, hA, hrd⟩ := h.open
  refine (clone_ints w w.heap.size xs.length c A (xs.map (Value.int .i64)) (by simp) (hrd.congr (g := fun i => (xs.map (Value.int .i64)).getD i undef) fun i hi => by simp [List.getD_eq_getElem?_getD, hi]).rd (by intro u hu; obtain ⟨q, _, rfl⟩ := List.mem_map.1 hu; rfl) hn hA).mono ?_
  rintro e w1 ⟨A', c', rfl, hown, hb⟩
  exact ⟨A', c', rfl, isN_own rfl hown, hb.toK⟩
end Go.Proofs.Ytdhadnnakcdfiaa
