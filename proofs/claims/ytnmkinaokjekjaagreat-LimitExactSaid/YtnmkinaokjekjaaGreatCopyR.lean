/- The walk of the reference's Copy (for packages whose CmpL lacks it). -/
import Derived.Test.YtnmkinaokjekjaaGreatCmpL
import Derived.Test.YtnmkinaokjekjaaGreatStep
import Derived.Test.YtnmkinaokjekjaaGreatOwnI
namespace Go.Proofs.YtnmkinaokjekjaaGreat
set_option linter.unusedVariables false
open Go.RowKit

set_option maxHeartbeats 400000 in
theorem copy_is {w : World} {l : List Nat} {v : Value} {xs : List Int} (h : IsI w l v xs) (hn : xs.length ≤ 1000000) : Calls Tryz.prog 62 #[v] w (CloPost l xs w) := by
  have h' := h
  obtain ⟨A, c, rfl, _⟩ := h'.open
  have hnil : OwL IsN 0 3 w.heap.size w l (.slice none 0 0) [] := OwL.nil
  have hx : IsL IsN 0 w ([] ++ l) (.slice A xs.length c) xs := h
  clear h'
  have HNIL := Lib.hid hnil
  have HX := Lib.hid hx
  have H := Lib.hid h
  clear hnil hx h
  go_enter Tryz.func62, Tryz.ntmps62
  go_wp2_with (at_builtin; refine wpList_join sl_int rfl _ _ rfl rfl rfl HNIL.out HX.out (m := xs.length) (by simp) (by omega) (Nat.le_refl _) (w0 := w) (l0 := []) (Nat.le_refl _) (Keeps.refl _ _) ?_; intro V' c' w3 hown hkk hk3)
  go_ret
  exact ⟨V', c', rfl, hown, hk3⟩
end Go.Proofs.YtnmkinaokjekjaaGreat
