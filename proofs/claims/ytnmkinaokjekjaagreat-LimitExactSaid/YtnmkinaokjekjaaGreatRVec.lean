/- The walks of the reference's element, Valid and Leq of vectors. -/
import Derived.Test.YtnmkinaokjekjaaGreatVecF
import Derived.Deep.QuietTactic
namespace Go.Proofs.YtnmkinaokjekjaaGreat
set_option linter.unusedVariables false
open Go.RowKit

set_option maxHeartbeats 400000 in
theorem relement_any (x : Int) (w : World) : Calls Tryz.prog 90 #[.int .i64 x] w fun e w' => e = .returned (.bool (elB x)) ∧ w = w' := by
  by_cases h0 : 0 ≤ x
  · by_cases h1 : x ≤ 1048576
    · have hd : Hid (elB x = true) := elB_true.2 (.inl ⟨h0, h1⟩)
      go_enter Tryz.func90, Tryz.ntmps90
      go_wp2_with fail
      go_ret
      exact ⟨ret_b hd.out, rfl⟩
    · by_cases h2 : x = 1099511627776
      · have hd : Hid (elB x = true) := elB_true.2 (.inr h2)
        have ht : (x == 1099511627776) = true := by simpa using h2
        have H2 := Lib.hid h2
        clear h2
        go_enter Tryz.func90, Tryz.ntmps90
        go_wp2_with fail
        go_ret
        exact ⟨ret_b hd.out, rfl⟩
      · have hd : Hid (elB x = false) := by unfold Hid; rw [← Bool.not_eq_true, elB_true]; rintro (h | h); omega; exact h2 h
        have ht : (x == 1099511627776) = false := by simpa using h2
        have H2 := Lib.hid h2
        clear h2
        go_enter Tryz.func90, Tryz.ntmps90
        go_wp2_with fail
        go_ret
        exact ⟨ret_b hd.out, rfl⟩
  · have hd : Hid (elB x = false) := by unfold Hid; rw [← Bool.not_eq_true, elB_true]; rintro (h | h) <;> omega
    have ht : (x == 1099511627776) = false := by rw [beq_eq_false_iff_ne]; omega
    go_enter Tryz.func90, Tryz.ntmps90
    go_wp2_with fail
    go_ret
    exact ⟨ret_b hd.out, rfl⟩

set_option maxHeartbeats 400000 in
theorem rvalid_is {w : World} {l : List Nat} {av : Value} {a : List Int} (ha : IsI w l av a) (hn : a.length ≤ 1000000) : Calls Tryz.prog 64 #[av] w (RetB (vvB a) w) := by
  unfold RetB
  obtain ⟨A, c, rfl, _, _, h1⟩ := ha.open
  have hB : vvB a = (decide (a.length ≤ 6) && a.all fun x => elB x) := rfl
  generalize hnn : a.length = n at *
  have H1 := Lib.hid h1
  have HNN := Lib.hid hnn
  have HB := Lib.hid hB
  have HA := Lib.hid ha
  clear h1 hnn hB ha
  go_enter Tryz.func64, Tryz.ntmps64
  go_wp2_with fail
  go_loopg [3] (n + 1) (fun gh iv wr => ∃ k : Nat, n + 1 ≤ k + gh ∧ k ≤ n ∧ iv = .int .i64 (k : Int) ∧ (∀ i, i < k → elB (a.getD i 0) = true) ∧ w = wr)
  case atStart => exact ⟨0, by omega, by omega, rfl, fun i hi => by omega, rfl⟩
  case round =>
    obtain ⟨k, hgh, hk, rfl, hs, rfl⟩ := hrel
    have HS := Lib.hid hs
    clear hs
    by_cases hlt : k < n
    · obtain ⟨p, rfl, hp⟩ := H1.out.at_ hlt
      have hmem : a.getD k 0 ∈ a := getD_mem (by rw [HNN.out]; exact hlt)
      have hcall := relement_any (a.getD k 0) w
      generalize hx : a.getD k 0 = x at *
      cases hq : elB x with
      | true =>
        rw [hq] at hcall
        have HMEM := Lib.hid hmem
        have HX := Lib.hid hx
        have HCALL := Lib.hid hcall
        have HQ := Lib.hid hq
        clear hmem hx hcall hq
        go_wp2_with fail
        refine HCALL.out.mono ?_
        rintro e w' ⟨rfl, rfl⟩
        go_wp2_with fail
        go_roundg (n - k)
        case measure => omega
        case rel => exact ⟨k + 1, by omega, by omega, by go_num, fun i hi => by
          by_cases e : i = k
          · rw [e, HX.out]; exact HQ.out
          · exact HS.out i (by omega), rfl⟩
      | false =>
        rw [hq] at hcall
        have hd : vvB a = false := by
          rw [HB.out, show a.all (fun x => elB x) = false from List.all_eq_false.2 ⟨x, hmem, by rw [hq]; simp⟩, Bool.and_false]
        have HMEM := Lib.hid hmem
        have HX := Lib.hid hx
        have HCALL := Lib.hid hcall
        have HQ := Lib.hid hq
        have HD := Lib.hid hd
        clear hmem hx hcall hq hd
        go_wp2_with fail
        refine HCALL.out.mono ?_
        rintro e w' ⟨rfl, rfl⟩
        go_wp2_with fail
        go_ret
        exact ⟨ret_b HD.out, Keeps.refl _ _⟩
    · obtain rfl : k = n := by omega
      have hall : a.all (fun x => elB x) = true := List.all_eq_true.2 fun x hx => by
        obtain ⟨i, hi, e⟩ := mem_getD (d := 0) hx
        rw [← e]; exact HS.out i (by rw [← HNN.out]; exact hi)
      have hd : vvB a = decide ((k : Int) ≤ 6) := by
        rw [HB.out, hall, Bool.and_true]
        by_cases h : k ≤ 6
        · rw [decide_eq_true h, decide_eq_true (by omega)]
        · rw [decide_eq_false h, decide_eq_false (by omega)]
      have HALL := Lib.hid hall
      have HD := Lib.hid hd
      clear hall hd
      go_wp2_with fail
      go_ret
      exact ⟨ret_b HD.out, Keeps.refl _ _⟩

set_option maxHeartbeats 1000000 in
theorem rleq_is {w : World} {l : List Nat} {av bv : Value} {a b : List Int} (ha : IsI w l av a) (hb : IsI w l bv b) (hn : a.length ≤ 1000000) (hm : b.length ≤ 1000000) : Calls Tryz.prog 39 #[av, bv] w (RetB (vleB a b) w) := by
  unfold RetB
  have hB : vleB a b = (vvB a && vvB b && vltB a b) := rfl
  have hva := rvalid_is ha hn
  have hvb := fun W (k : Keeps [] w W) => rvalid_is (hb.new k) hm
  have hvl : a.length ≠ b.length → vltB a b = false := fun h => by unfold vltB; rw [decide_eq_false h, Bool.false_and]
  have hvp := fun (h : a.length = b.length) => ple_vlt h
  obtain ⟨A, c, rfl, _, _, h1⟩ := ha.open
  obtain ⟨B, c', rfl, _, _, h2⟩ := hb.open
  generalize hna : a.length = n at *
  generalize hnb : b.length = m at *
  rw [hB]
  generalize vvB a = r1 at *
  generalize vvB b = r2 at *
  have H1 := Lib.hid h1
  have H2 := Lib.hid h2
  have HVA := Lib.hid hva
  have HVB := Lib.hid hvb
  have HVL := Lib.hid hvl
  have HVP := Lib.hid hvp
  have HNA := Lib.hid hna
  have HNB := Lib.hid hnb
  have HB := Lib.hid hB
  have HA := Lib.hid ha
  have HB := Lib.hid hb
  clear h1 h2 hva hvb hvl hvp hna hnb hB ha hb
  cases r1 with
  | false =>
    go_enter Tryz.func39, Tryz.ntmps39
    go_wp2_with fail
    refine HVA.out.mono ?_
    rintro e w1 ⟨rfl, hk⟩
    have HK := Lib.hid hk
    clear hk
    go_wp2_with fail
    go_ret
    exact ⟨by simp, HK.out⟩
  | true =>
    cases r2 with
    | false =>
      go_enter Tryz.func39, Tryz.ntmps39
      go_wp2_with fail
      refine HVA.out.mono ?_
      rintro e w1 ⟨rfl, hk⟩
      have HK := Lib.hid hk
      clear hk
      go_wp2_with fail
      refine (HVB.out w1 HK.out).mono ?_
      rintro e w2 ⟨rfl, hk2⟩
      have hk3 := HK.out.trans hk2
      have HK3 := Lib.hid hk3
      clear hk3
      clear hk2
      go_wp2_with fail
      go_ret
      exact ⟨by simp, HK3.out⟩
    | true =>
      by_cases he : n = m
      · subst he
        have h3 := HVP.out rfl
        rw [h3]
        have H3 := Lib.hid h3
        clear h3
        go_enter Tryz.func39, Tryz.ntmps39
        go_wp2_with fail
        refine HVA.out.mono ?_
        rintro e w1 ⟨rfl, hk⟩
        have HK := Lib.hid hk
        clear hk
        go_wp2_with fail
        refine (HVB.out w1 HK.out).mono ?_
        rintro e w2 ⟨rfl, hk2⟩
        have hk3 := HK.out.trans hk2
        have HK3 := Lib.hid hk3
        clear hk3
        clear hk2
        go_wp2_with fail
        go_loopg [5] (n + 1) (fun gh iv wr => ∃ k : Nat, n + 1 ≤ k + gh ∧ k ≤ n ∧ iv = .int .i64 (k : Int) ∧ (∀ i, i < k → a.getD i 0 ≤ b.getD i 0) ∧ Keeps [] w wr)
        case atStart => exact ⟨0, by omega, by omega, rfl, fun i hi => by omega, HK3.out⟩
        case round =>
          obtain ⟨k, hgh, hk, rfl, hs, hkr⟩ := hrel
          have HS := Lib.hid hs
          clear hs
          by_cases hlt : k < n
          · obtain ⟨p, rfl, hp⟩ := (H1.out.keeps (hkr.nil l)).at_ hlt
            obtain ⟨p2, rfl, hp2⟩ := (H2.out.keeps (hkr.nil l)).at_ hlt
            generalize hx : a.getD k 0 = x at *
            generalize hy : b.getD k 0 = y at *
            have HX := Lib.hid hx
            have HY := Lib.hid hy
            have HKR := Lib.hid hkr
            clear hx hy hkr
            by_cases hle : x ≤ y
            · have ht : decide (y < x) = false := decide_eq_false (by omega)
              go_wp2_with fail
              go_quiet (fail)
              go_wp2_with fail
              go_roundg (n - k)
              case measure => omega
              case rel => exact ⟨k + 1, by omega, by omega, by go_num, fun i hi => by
                by_cases e : i = k
                · subst e; rw [HX.out, HY.out]; exact hle
                · exact HS.out i (by omega), HKR.out.drewN _⟩
            · have ht : decide (y < x) = true := decide_eq_true (by omega)
              have hd : pleB a b = false := by
                rw [← Bool.not_eq_true, pleB_true]
                intro h
                have := h k (by rw [HNA.out]; exact hlt)
                rw [HX.out, HY.out] at this
                exact hle this
              have HD := Lib.hid hd
              clear hd
              go_wp2_with fail
              go_quiet (fail)
              go_wp2_with fail
              go_ret
              exact ⟨ret_b (by rw [HD.out]; rfl), HKR.out.drewN _⟩
          · obtain rfl : k = n := by omega
            have hd : pleB a b = true := pleB_true.2 fun i hi => HS.out i (by rw [← HNA.out]; exact hi)
            have HD := Lib.hid hd
            have HKR := Lib.hid hkr
            clear hd hkr
            go_wp2_with fail
            go_ret
            exact ⟨ret_b (by rw [HD.out]; rfl), HKR.out⟩
      · have ht : ((n : Int) != (m : Int)) = true := by rw [bne_iff_ne]; omega
        have h3 := HVL.out he
        rw [h3]
        have HE := Lib.hid he
        have H3 := Lib.hid h3
        clear he h3
        go_enter Tryz.func39, Tryz.ntmps39
        go_wp2_with fail
        refine HVA.out.mono ?_
        rintro e w1 ⟨rfl, hk⟩
        have HK := Lib.hid hk
        clear hk
        go_wp2_with fail
        refine (HVB.out w1 HK.out).mono ?_
        rintro e w2 ⟨rfl, hk2⟩
        have hk3 := HK.out.trans hk2
        have HK3 := Lib.hid hk3
        clear hk3
        clear hk2
        go_wp2_with fail
        go_ret
        exact ⟨by simp, HK3.out⟩
end Go.Proofs.YtnmkinaokjekjaaGreat
