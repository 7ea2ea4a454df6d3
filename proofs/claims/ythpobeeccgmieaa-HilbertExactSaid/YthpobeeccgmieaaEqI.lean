/- The walk of slices.Equal at ints, in the words of Rep. -/
import Derived.Test.YthpobeeccgmieaaSliI
namespace Go.Proofs.Ythpobeeccgmieaa
set_option linter.unusedVariables false
open Go.RowKit

set_option maxHeartbeats 400000 in
theorem equal_is {w : World} {l : List Nat} {av bv : Value} {a b : List Int} (ha : IsI w l av a) (hb : IsI w l bv b) (hn : a.length ≤ 1000000) (hm : b.length ≤ 1000000) : Calls Try.prog 53 #[av, bv] w (Quiet (.bool (decide (a = b))) w) := by
  obtain ⟨A, c, rfl, _, _, h1⟩ := ha.open
  obtain ⟨B, c', rfl, _, _, h2⟩ := hb.open
  unfold Quiet
  clear ha hb
  by_cases hne : a.length = b.length
  · rw [← hne] at h2 ⊢
    generalize hna : a.length = n at *
    have H1 := Lib.hid h1
    have H2 := Lib.hid h2
    have HNA := Lib.hid hna
    have HNE := Lib.hid hne
    clear h1 h2 hna hne
    go_enter Try.func53, Try.ntmps53
    go_wp2_with fail
    go_loopg [5, 13] (n + 1) (fun gh _ iv wr => ∃ i : Nat, n + 1 ≤ i + gh ∧ i ≤ n ∧ iv = .int .i64 (i : Int) ∧ (∀ r, r < i → a.getD r 0 = b.getD r 0) ∧ ∃ q, wr = w.drewN q)
    case atStart => exact ⟨0, by omega, by omega, rfl, fun r hr => by omega, 0, rfl⟩
    case round =>
      obtain ⟨i, hgh, hi, rfl, hs, q, rfl⟩ := hrel
      have HS := Lib.hid hs
      clear hs
      by_cases hlt : i < n
      · obtain ⟨p, rfl, hp⟩ := H1.out.at_ hlt
        obtain ⟨p2, rfl, hp2⟩ := H2.out.at_ hlt
        generalize hx : a.getD i 0 = x at *
        generalize hy : b.getD i 0 = y at *
        have HX := Lib.hid hx
        have HY := Lib.hid hy
        clear hx hy
        by_cases he : x = y
        · have ht : (x != y) = false := by simpa using he
          have HE := Lib.hid he
          clear he
          go_wp2_with fail
          go_quiet (fail)
          go_wp2_with fail
          go_roundg (n - i)
          case measure => omega
          case rel => exact ⟨i + 1, by omega, by omega, by go_num, fun r hr => by
            by_cases e : r = i
            · subst e; rw [HX.out, HY.out]; exact HE.out
            · exact HS.out r (by omega), _, rfl⟩
        · have ht : (x != y) = true := by simpa using he
          have HE := Lib.hid he
          clear he
          go_wp2_with fail
          go_quiet (fail)
          go_wp2_with fail
          go_ret
          exact ⟨ret_bo (by rw [eq_comm, decide_eq_false_iff_not]; rintro rfl; exact HE.out (HX.out.symm.trans HY.out)), _, World.drewN_drewN _ _ _⟩
      · obtain rfl : i = n := by omega
        go_wp2_with fail
        go_ret
        exact ⟨ret_bo (by rw [eq_comm, decide_eq_true_iff]; exact eq_of_getD (HNA.out.trans HNE.out) (fun i hi => HS.out i (by rw [HNA.out] at hi; exact hi))), _, rfl⟩
  · have ht : ((a.length : Int) != (b.length : Int)) = true := by rw [bne_iff_ne]; omega
    go_enter Try.func53, Try.ntmps53
    go_wp2_with fail
    go_ret
    exact ⟨ret_bo (by rw [eq_comm, decide_eq_false_iff_not]; rintro rfl; exact hne rfl), 0, rfl⟩

end Go.Proofs.Ythpobeeccgmieaa
