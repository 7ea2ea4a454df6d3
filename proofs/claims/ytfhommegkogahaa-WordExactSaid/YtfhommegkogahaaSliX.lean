/- The walk of slices.Index at ints. -/
import Derived.Test.YtfhommegkogahaaSliI
namespace Go.Proofs.Ytfhommegkogahaa
set_option linter.unusedVariables false
open Go.RowKit

/-- The first place of a number in a list, or -1. -/
def idxI : List Int → Int → Int
  | [], _ => -1
  | y :: ys, x => if x = y then 0 else if idxI ys x < 0 then -1 else idxI ys x + 1
theorem idxI_at : ∀ {a : List Int} {x : Int} {k : Nat}, k < a.length → (∀ i, i < k → x ≠ a.getD i 0) → x = a.getD k 0 → idxI a x = k
  | [], x, k, h, _, _ => by simp at h
  | y :: a, x, 0, _, _, h => by simp only [List.getD_cons_zero] at h; rw [idxI, if_pos h]; rfl
  | y :: a, x, k + 1, h, h0, h1 => by
    have := h0 0 (by omega)
    simp only [List.getD_cons_zero] at this
    have ih := idxI_at (a := a) (x := x) (k := k) (by simpa using h) (fun i hi => by have := h0 (i + 1) (by omega); simpa using this) (by simpa using h1)
    rw [idxI, if_neg this, ih, if_neg (by omega)]; omega
theorem idxI_none : ∀ {a : List Int} {x : Int}, (∀ i, i < a.length → x ≠ a.getD i 0) → idxI a x = -1
  | [], x, _ => rfl
  | y :: a, x, h => by
    have := h 0 (by simp)
    simp only [List.getD_cons_zero] at this
    have ih := idxI_none (a := a) (x := x) (fun i hi => by have := h (i + 1) (by simpa using hi); simpa using this)
    rw [idxI, if_neg this, ih]; rfl

set_option maxHeartbeats 400000 in
theorem index_is {w : World} {l : List Nat} {av : Value} {a : List Int} {x : Int} (ha : IsI w l av a) (hn : a.length ≤ 1000000) : Calls Try.prog 41 #[av, .int .i64 x] w (Quiet (.int .i64 (idxI a x)) w) := by
  obtain ⟨A, c, rfl, _, _, h1⟩ := ha.open
  unfold Quiet
  clear ha
  generalize hna : a.length = n at *
  have H1 := Lib.hid h1
  have HNA := Lib.hid hna
  clear h1 hna
  go_enter Try.func41, Try.ntmps41
  go_wp2_with fail
  go_loopg [5, 8] (n + 1) (fun gh _ iv wr => ∃ i : Nat, n + 1 ≤ i + gh ∧ i ≤ n ∧ iv = .int .i64 (i : Int) ∧ (∀ r, r < i → x ≠ a.getD r 0) ∧ ∃ q, wr = w.drewN q)
  case atStart => exact ⟨0, by omega, by omega, rfl, fun r hr => by omega, 0, rfl⟩
  case round =>
    obtain ⟨i, hgh, hi, rfl, hs, q, rfl⟩ := hrel
    have HS := Lib.hid hs
    clear hs
    by_cases hlt : i < n
    · obtain ⟨p, rfl, hp⟩ := H1.out.at_ hlt
      generalize hy : a.getD i 0 = y at *
      have HY := Lib.hid hy
      clear hy
      by_cases he : x = y
      · have ht : (x == y) = true := by simpa using he
        have HE := Lib.hid he
        clear he
        go_wp2_with fail
        go_ret
        exact ⟨ret_ni (idxI_at (by rw [HNA.out]; exact hlt) HS.out (by rw [HY.out]; exact HE.out)), _, rfl⟩
      · have ht : (x == y) = false := by simpa using he
        have HE := Lib.hid he
        clear he
        go_wp2_with fail
        go_roundg (n - i)
        case measure => omega
        case rel => exact ⟨i + 1, by omega, by omega, by go_num, fun r hr => by
          by_cases e : r = i
          · subst e; rw [HY.out]; exact HE.out
          · exact HS.out r (by omega), _, rfl⟩
    · obtain rfl : i = n := by omega
      go_wp2_with fail
      go_ret
      exact ⟨ret_ni (idxI_none fun j hj => HS.out j (by rw [HNA.out] at hj; exact hj)), _, rfl⟩
end Go.Proofs.Ytfhommegkogahaa
