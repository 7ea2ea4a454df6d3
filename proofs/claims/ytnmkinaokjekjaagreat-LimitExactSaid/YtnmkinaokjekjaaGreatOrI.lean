/- The walk of cmp.Or at ints, in the words of Rep. -/
import Derived.Test.YtnmkinaokjekjaaGreatSliI
namespace Go.Proofs.YtnmkinaokjekjaaGreat
set_option linter.unusedVariables false
open Go.RowKit

set_option maxHeartbeats 400000 in
theorem or_is {w : World} {l : List Nat} {av : Value} {a : List Int} (ha : IsI w l av a) (hn : a.length ≤ 1000000) : Calls Tryz.prog 69 #[av] w (Quiet (.int .i64 (orL a)) w) := by
  obtain ⟨A, c, rfl, _, _, h1⟩ := ha.open
  unfold Quiet
  clear ha
  generalize hna : a.length = n at *
  have H1 := Lib.hid h1
  have HNA := Lib.hid hna
  clear h1 hna
  go_enter Tryz.func69, Tryz.ntmps69
  go_wp2_with fail
  go_loopg [5, 8] (n + 1) (fun gh _ iv wr => ∃ i : Nat, n + 1 ≤ i + gh ∧ i ≤ n ∧ iv = .int .i64 (i : Int) ∧ (∀ r, r < i → a.getD r 0 = 0) ∧ ∃ q, wr = w.drewN q)
  case atStart => exact ⟨0, by omega, by omega, rfl, fun r hr => by omega, 0, rfl⟩
  case round =>
    obtain ⟨i, hgh, hi, rfl, hs, q, rfl⟩ := hrel
    have HS := Lib.hid hs
    clear hs
    by_cases hlt : i < n
    · obtain ⟨p, rfl, hp⟩ := H1.out.at_ hlt
      generalize hx : a.getD i 0 = x at *
      have HX := Lib.hid hx
      clear hx
      by_cases he : x = 0
      · have ht : (x != 0) = false := by simpa using he
        have HE := Lib.hid he
        clear he
        go_wp2_with fail
        go_roundg (n - i)
        case measure => omega
        case rel => exact ⟨i + 1, by omega, by omega, by go_num, fun r hr => by
          by_cases e : r = i
          · subst e; rw [HX.out]; exact HE.out
          · exact HS.out r (by omega), _, rfl⟩
      · have ht : (x != 0) = true := by simpa using he
        have HE := Lib.hid he
        clear he
        go_wp2_with fail
        go_ret
        exact ⟨ret_ni (by rw [orL_at (k := i) (by rw [HNA.out]; exact hlt) HS.out (by rw [HX.out]; exact HE.out), HX.out]), _, rfl⟩
    · obtain rfl : i = n := by omega
      go_wp2_with fail
      go_ret
      exact ⟨ret_ni (orL_end fun j hj => HS.out j (by rw [HNA.out] at hj; exact hj)), _, rfl⟩

end Go.Proofs.YtnmkinaokjekjaaGreat
