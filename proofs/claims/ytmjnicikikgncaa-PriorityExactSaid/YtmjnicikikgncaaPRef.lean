/- The walk of the reference's Ranks and Valid. -/
import Derived.Test.YtmjnicikikgncaaPrioV
import Derived.Test.YtmjnicikikgncaaNow
namespace Go.Proofs.Ytmjnicikikgncaa
set_option linter.unusedVariables false
open Go.RowKit
set_option maxHeartbeats 400000 in
theorem rranks_is {w : World} {l : List Nat} {v : Value} {a : List Int} (h : IsI w l v a) (hn : a.length ≤ 1000000) : Calls Try.prog 36 #[v] w (RetB (prB a) w) := by
  unfold RetB
  obtain ⟨A, c, rfl, _, _, h1⟩ := h.open
  generalize hnn : a.length = n at *
  have H := Lib.hid h
  have H1 := Lib.hid h1
  have HNN := Lib.hid hnn
  clear h h1 hnn
  go_enter Try.func36, Try.ntmps36
  go_wp2_with fail
  go_loopg [3] (n + 1) (fun gh iv wr => ∃ k : Nat, n + 1 ≤ k + gh ∧ k ≤ n ∧ iv = .int .i64 (k : Int) ∧ (∀ i, i < k → 0 ≤ a.getD i 0 ∧ a.getD i 0 < 6) ∧ w = wr)
  case atStart => exact ⟨0, by omega, by omega, rfl, fun i hi => by omega, rfl⟩
  case round =>
    obtain ⟨k, hgh, hk, rfl, hrel, rfl⟩ := hrel
    have HREL := Lib.hid hrel
    clear hrel
    by_cases hlt : k < n
    · obtain ⟨p, rfl, hp⟩ := H1.out.at_ hlt
      have hmem : a.getD k 0 ∈ a := getD_mem (by rw [HNN.out]; exact hlt)
      generalize hx : a.getD k 0 = x at *
      have HMEM := Lib.hid hmem
      have HX := Lib.hid hx
      clear hmem hx
      by_cases h2 : x < 0
      · have hd : prB a = false := prB_false.2 fun hv => by have := (hv.2 x HMEM.out).1; omega
        have HD := Lib.hid hd
        clear hd
        go_wp2_with fail
        go_ret
        exact ⟨ret_bo HD.out.symm, Keeps.refl _ _⟩
      · by_cases h3 : 6 ≤ x
        · have hd : prB a = false := prB_false.2 fun hv => by have := (hv.2 x HMEM.out).2; omega
          have HD := Lib.hid hd
          clear hd
          go_wp2_with fail
          go_ret
          exact ⟨ret_bo HD.out.symm, Keeps.refl _ _⟩
        · go_wp2_with fail
          go_roundg (n - k)
          case measure => omega
          case rel => exact ⟨k + 1, by omega, by omega, by go_num, fun i hi => by
            rcases Nat.lt_or_ge i k with h | h
            · exact HREL.out i h
            · obtain rfl : i = k := by omega
              rw [HX.out]; omega, rfl⟩
    · obtain rfl : k = n := by omega
      have hall : ∀ x ∈ a, 0 ≤ x ∧ x < 6 := fun x hx => by
        obtain ⟨i, hi, e⟩ := mem_getD (d := 0) hx
        rw [HNN.out] at hi
        have := HREL.out i hi
        rw [e] at this
        exact this
      have HALL := Lib.hid hall
      clear hall
      by_cases h1 : 1 ≤ k
      · have hd1 : decide ((1 : Int) ≤ (k : Int)) = true := by simp; omega
        have hd2 : decide (1 ≤ k) = true := by simp; omega
        have hd : prB a = decide ((k : Int) ≤ 6) := by
          rw [Bool.eq_iff_iff, prB_true, decide_eq_true_iff]
          exact ⟨fun hv => by have := hv.1.2; rw [HNN.out] at this; omega, fun h => ⟨⟨by rw [HNN.out]; omega, by rw [HNN.out]; omega⟩, HALL.out⟩⟩
        have HD := Lib.hid hd
        clear hd
        go_wp2_with fail
        go_ret
        exact ⟨ret_bo HD.out.symm, Keeps.refl _ _⟩
      · have hd1 : decide ((1 : Int) ≤ (k : Int)) = false := by simp; omega
        have hd2 : decide (1 ≤ k) = false := by simp; omega
        have hd : prB a = false := prB_false.2 fun hv => by have := hv.1.1; rw [HNN.out] at this; omega
        have HD := Lib.hid hd
        clear hd
        go_wp2_with fail
        go_ret
        exact ⟨ret_bo HD.out.symm, Keeps.refl _ _⟩

set_option maxHeartbeats 400000 in
theorem rpvalid_is {w : World} {l : List Nat} {rv v : Value} {r a : List Int} (hr : IsI w l rv r) (h : IsI w l v a) (hn : a.length ≤ 1000000) (hm : r.length ≤ 1000000) : Calls Try.prog 17 #[rv, v] w (RetB (pvB r a) w) := by
  unfold RetB
  obtain ⟨A, c, rfl, _, _, h1⟩ := h.open
  obtain ⟨R, c', rfl, _, _, h2⟩ := hr.open
  have hcall := rranks_is hr hm
  generalize hnn : a.length = n at *
  generalize hrn : r.length = m at *
  have H := Lib.hid h
  have HR := Lib.hid hr
  have H1 := Lib.hid h1
  have H2 := Lib.hid h2
  have HNN := Lib.hid hnn
  have HRN := Lib.hid hrn
  have HCALL := Lib.hid hcall
  clear h hr h1 h2 hnn hrn hcall
  go_enter Try.func17, Try.ntmps17
  go_wp2_with fail
  go_loopg [5] (n + 1) (fun gh iv wr => ∃ k : Nat, n + 1 ≤ k + gh ∧ k ≤ n ∧ iv = .int .i64 (k : Int) ∧ (∀ i, i < k → 0 ≤ a.getD i 0 ∧ a.getD i 0 < m) ∧ w = wr)
  case atStart => exact ⟨0, by omega, by omega, rfl, fun i hi => by omega, rfl⟩
  case round =>
    obtain ⟨k, hgh, hk, rfl, hrel, rfl⟩ := hrel
    have HREL := Lib.hid hrel
    clear hrel
    by_cases hlt : k < n
    · obtain ⟨p, rfl, hp⟩ := H1.out.at_ hlt
      have hmem : a.getD k 0 ∈ a := getD_mem (by rw [HNN.out]; exact hlt)
      generalize hx : a.getD k 0 = x at *
      have HMEM := Lib.hid hmem
      have HX := Lib.hid hx
      clear hmem hx
      by_cases h2 : x < 0
      · have hd : pvB r a = false := pvB_false.2 fun hv => by have := (hv.2.2 x HMEM.out).1; omega
        have HD := Lib.hid hd
        clear hd
        go_wp2_with fail
        go_ret
        exact ⟨ret_bo HD.out.symm, Keeps.refl _ _⟩
      · by_cases h3 : (m : Int) ≤ x
        · have hd : pvB r a = false := pvB_false.2 fun hv => by have := (hv.2.2 x HMEM.out).2; rw [HRN.out] at this; omega
          have HD := Lib.hid hd
          clear hd
          go_wp2_with fail
          go_ret
          exact ⟨ret_bo HD.out.symm, Keeps.refl _ _⟩
        · go_wp2_with fail
          go_roundg (n - k)
          case measure => omega
          case rel => exact ⟨k + 1, by omega, by omega, by go_num, fun i hi => by
            rcases Nat.lt_or_ge i k with h | h
            · exact HREL.out i h
            · obtain rfl : i = k := by omega
              rw [HX.out]; omega, rfl⟩
    · obtain rfl : k = n := by omega
      have hall : ∀ x ∈ a, 0 ≤ x ∧ x < r.length := fun x hx => by
        obtain ⟨i, hi, e⟩ := mem_getD (d := 0) hx
        rw [HNN.out] at hi
        have := HREL.out i hi
        rw [e, ← HRN.out] at this
        exact this
      have hd : pvB r a = (prB r && decide ((k : Int) ≤ 12)) := by
        rw [Bool.eq_iff_iff, pvB_true, Bool.and_eq_true, prB_true, decide_eq_true_iff]
        exact ⟨fun hv => ⟨hv.1, by have := hv.2.1; rw [HNN.out] at this; omega⟩, fun h => ⟨h.1, by rw [HNN.out]; omega, hall⟩⟩
      generalize prB r = q at *
      have HD := Lib.hid hd
      clear hd
      clear hall
      cases q with
      | true =>
        go_wp2_with fail
        refine HCALL.out.mono ?_
        rintro e w1 ⟨rfl, hk⟩
        have HK := Lib.hid hk
        clear hk
        go_wp2_with fail
        go_ret
        exact ⟨ret_bo (by rw [HD.out]; simp), HK.out⟩
      | false =>
        go_wp2_with fail
        refine HCALL.out.mono ?_
        rintro e w1 ⟨rfl, hk⟩
        have HK := Lib.hid hk
        clear hk
        go_wp2_with fail
        go_ret
        exact ⟨ret_bo (by rw [HD.out]; simp), HK.out⟩
end Go.Proofs.Ytmjnicikikgncaa
