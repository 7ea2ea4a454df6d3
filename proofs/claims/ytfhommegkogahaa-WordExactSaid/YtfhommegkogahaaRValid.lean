/- The walk of the reference's Valid of words. -/
import Derived.Test.YtfhommegkogahaaREmbed
namespace Go.Proofs.Ytfhommegkogahaa
set_option linter.unusedVariables false
open Go.RowKit
set_option maxHeartbeats 400000 in
theorem rvalid_is {w : World} {l : List Nat} {v : Value} {a : List Int} (h : IsI w l v a) (hn : a.length ≤ 1000000) : Calls Try.prog 16 #[v] w (RetB (wvB a) w) := by
  unfold RetB
  obtain ⟨A, c, rfl, _, _, h1⟩ := h.open
  generalize hnn : a.length = n at *
  have H := Lib.hid h
  have H1 := Lib.hid h1
  have HNN := Lib.hid hnn
  clear h h1 hnn
  go_enter Try.func16, Try.ntmps16
  go_wp2_with fail
  go_loopg [3] (n + 1) (fun gh iv wr => ∃ k : Nat, n + 1 ≤ k + gh ∧ k ≤ n ∧ iv = .int .i64 (k : Int) ∧ (∀ i, i < k → 0 ≤ a.getD i 0 ∧ a.getD i 0 < 16) ∧ w = wr)
  case atStart => exact ⟨0, by omega, by omega, rfl, fun i hi => by omega, rfl⟩
  case round =>
    obtain ⟨k, hgh, hk, rfl, hrel, rfl⟩ := hrel
    have HREL := Lib.hid hrel
    clear hrel
    by_cases hlt : k < n
    · obtain ⟨p, rfl, hp⟩ := H1.out.at_ hlt
      have hmem : a.getD k 0 ∈ a := getD_mem (by rw [HNN.out]; exact hlt)
      generalize hx : a.getD k 0 = x at *
      have HMEM := Lib.hid hmem
      have HX := Lib.hid hx
      clear hmem hx
      by_cases h2 : x < 0
      · have hd : wvB a = false := wvB_false.2 fun hv => by have := (hv.2 x HMEM.out).1; omega
        have HD := Lib.hid hd
        clear hd
        go_wp2_with fail
        go_ret
        exact ⟨ret_bo HD.out.symm, Keeps.refl _ _⟩
      · by_cases h3 : 16 ≤ x
        · have hd : wvB a = false := wvB_false.2 fun hv => by have := (hv.2 x HMEM.out).2; omega
          have HD := Lib.hid hd
          clear hd
          go_wp2_with fail
          go_ret
          exact ⟨ret_bo HD.out.symm, Keeps.refl _ _⟩
        · go_wp2_with fail
          go_roundg (n - k)
          case measure => omega
          case rel => exact ⟨k + 1, by omega, by omega, by go_num, fun i hi => by
            rcases Nat.lt_or_ge i k with h | h
            · exact HREL.out i h
            · obtain rfl : i = k := by omega
              rw [HX.out]; omega, rfl⟩
    · obtain rfl : k = n := by omega
      have hall : ∀ x ∈ a, 0 ≤ x ∧ x < 16 := fun x hx => by
        obtain ⟨i, hi, e⟩ := mem_getD (d := 0) hx
        rw [HNN.out] at hi
        have := HREL.out i hi
        rw [e] at this
        exact this
      have HALL := Lib.hid hall
      clear hall
      have hd : wvB a = decide ((k : Int) ≤ 12) := by
        rw [Bool.eq_iff_iff, wvB_true, decide_eq_true_iff]
        exact ⟨fun hv => by have := hv.1; rw [HNN.out] at this; omega, fun h => ⟨by rw [HNN.out]; omega, HALL.out⟩⟩
      have HD := Lib.hid hd
      clear hd
      go_wp2_with fail
      go_ret
      exact ⟨ret_bo HD.out.symm, Keeps.refl _ _⟩
end Go.Proofs.Ytfhommegkogahaa
