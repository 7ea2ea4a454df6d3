/- The walks of vector's number, Valid, Finite, below and Leq. -/
import Derived.Test.YtnmkinaokjekjaaGreatAnyD
import Derived.Test.YtnmkinaokjekjaaGreatRedL
namespace Go.Proofs.YtnmkinaokjekjaaGreat
set_option linter.unusedVariables false
open Go.RowKit

def numB (x : Int) : Bool := decide (0 ≤ x ∧ x ≤ 1048576)
theorem numB_true {x : Int} : numB x = true ↔ 0 ≤ x ∧ x ≤ 1048576 := by simp [numB]
theorem ret_b {a b : Bool} (h : b = a) : Ending.returned (.bool a) = .returned (.bool b) := by rw [h]
set_option maxHeartbeats 400000 in
theorem number_any (x : Int) (w : World) : Calls Tryz.prog 82 #[.int .i64 x] w fun e w' => e = .returned (.bool (numB x)) ∧ w = w' := by
  by_cases h0 : 0 ≤ x
  · by_cases h1 : x ≤ 1048576
    · have hd : Hid (numB x = true) := numB_true.2 ⟨h0, h1⟩
      go_enter Tryz.func82, Tryz.ntmps82
      go_wp2_with fail
      go_ret
      exact ⟨ret_b hd.out, rfl⟩
    · have hd : Hid (numB x = false) := by unfold Hid; rw [← Bool.not_eq_true, numB_true]; omega
      go_enter Tryz.func82, Tryz.ntmps82
      go_wp2_with fail
      go_ret
      exact ⟨ret_b hd.out, rfl⟩
  · have hd : Hid (numB x = false) := by unfold Hid; rw [← Bool.not_eq_true, numB_true]; omega
    go_enter Tryz.func82, Tryz.ntmps82
    go_wp2_with fail
    go_ret
    exact ⟨ret_b hd.out, rfl⟩

def elB (x : Int) : Bool := decide (VEl x)
theorem elB_true {x : Int} : elB x = true ↔ VEl x := by simp [elB]
set_option maxHeartbeats 400000 in
theorem valid1_any (x : Int) (w : World) : Calls Tryz.prog 91 #[.int .i64 x] w fun e w' => e = .returned (.bool (!elB x)) ∧ w = w' := by
  by_cases h0 : 0 ≤ x ∧ x ≤ 1048576
  · have hd : Hid ((!elB x) = false) := by unfold Hid; rw [elB_true.2 (.inl h0)]; rfl
    have hn := numB_true.2 h0
    have HN := Lib.hid hn
    have H0 := Lib.hid h0
    clear hn h0
    go_enter Tryz.func91, Tryz.ntmps91
    go_wp2_with fail
    refine (number_any x w).mono ?_
    rintro e w1 ⟨rfl, rfl⟩
    rw [HN.out]
    go_wp2_with fail
    go_ret
    exact ⟨ret_b hd.out, rfl⟩
  · have hn : numB x = false := by rw [← Bool.not_eq_true, numB_true]; exact h0
    by_cases h1 : x = 1099511627776
    · have hd : Hid ((!elB x) = false) := by unfold Hid; rw [elB_true.2 (.inr h1)]; rfl
      have ht : (x != 1099511627776) = false := by simpa using h1
      have HN := Lib.hid hn
      have H0 := Lib.hid h0
      have H1 := Lib.hid h1
      clear hn h0 h1
      go_enter Tryz.func91, Tryz.ntmps91
      go_wp2_with fail
      refine (number_any x w).mono ?_
      rintro e w1 ⟨rfl, rfl⟩
      rw [HN.out]
      go_wp2_with fail
      go_ret
      exact ⟨ret_b hd.out, rfl⟩
    · have hd : Hid ((!elB x) = true) := by
        unfold Hid
        have : elB x = false := by rw [← Bool.not_eq_true, elB_true]; exact fun h => h.elim h0 h1
        rw [this]; rfl
      have ht : (x != 1099511627776) = true := by simpa using h1
      have HN := Lib.hid hn
      have H0 := Lib.hid h0
      have H1 := Lib.hid h1
      clear hn h0 h1
      go_enter Tryz.func91, Tryz.ntmps91
      go_wp2_with fail
      refine (number_any x w).mono ?_
      rintro e w1 ⟨rfl, rfl⟩
      rw [HN.out]
      go_wp2_with fail
      go_ret
      exact ⟨ret_b hd.out, rfl⟩
set_option maxHeartbeats 400000 in
theorem finite1_any (x : Int) (w : World) : Calls Tryz.prog 81 #[.int .i64 x] w fun e w' => e = .returned (.bool (!numB x)) ∧ w = w' := by
  have hn := number_any x w
  generalize numB x = r at *
  have HN := Lib.hid hn
  clear hn
  go_enter Tryz.func81, Tryz.ntmps81
  go_wp2_with fail
  refine HN.out.mono ?_
  rintro e w1 ⟨rfl, rfl⟩
  go_wp2_with fail
  go_ret
  exact ⟨rfl, rfl⟩

theorem pred_ints {g : Nat} {q : Int → Bool} (h : ∀ x w, Calls Tryz.prog g #[.int .i64 x] w fun e w' => e = .returned (.bool (q x)) ∧ w = w') (l : List Nat) (a : List Int) (w : World) : PredR IsN 0 g #[] l a (fun i => q (a.getD i 0)) w := by
  intro W i u hi hk hu
  have hu : u = .int .i64 (a.getD i 0) := hu
  subst hu
  refine (h (a.getD i 0) W).mono ?_
  rintro e w' ⟨rfl, rfl⟩
  exact ⟨rfl, Keeps.refl _ _⟩

set_option maxHeartbeats 400000 in
theorem valid_is {w : World} {l : List Nat} {av : Value} {a : List Int} (ha : IsI w l av a) (hn : a.length ≤ 1000000) : Calls Tryz.prog 66 #[av] w (RetB (vvB a) w) := by
  unfold RetB
  have eg := enters_of Tryz.func91 (by kernel_rfl) rfl
  have hany := anr_ints (w := w) (l := l) (p := fun i => !elB (a.getD i 0)) (show IsL IsN 0 w l av a from ha) hn eg (pred_ints valid1_any l a w)
  obtain ⟨A, c, rfl, _, _, h1⟩ := ha.open
  have hB : vvB a = (decide (a.length ≤ 6) && a.all fun x => elB x) := rfl
  by_cases h6 : a.length ≤ 6
  · have d1 : decide ((a.length : Int) ≤ 6) = true := decide_eq_true (by omega)
    rw [hB, decide_eq_true h6, Bool.true_and]
    generalize hnn : a.length = n at *
    have d2 : decide (n ≤ 6) = true := decide_eq_true h6
    have H1 := Lib.hid h1
    have HANY := Lib.hid hany
    have HNN := Lib.hid hnn
    have HB := Lib.hid hB
    have HA := Lib.hid ha
    clear h1 hany hnn hB ha
    go_enter Tryz.func66, Tryz.ntmps66
    go_wp2_with fail
    refine HANY.out.mono ?_
    rintro e w1 ⟨r, rfl, hr, hk⟩
    have hre : (a.all fun x => elB x) = !r := by
      cases r with
      | true =>
        obtain ⟨i, hi, hq⟩ := hr.1 rfl
        rw [Bool.not_true, List.all_eq_false]
        exact ⟨_, getD_mem (d := 0) (by rw [HNN.out]; exact hi), by simpa using hq⟩
      | false =>
        rw [Bool.not_false, List.all_eq_true]
        intro x hx
        obtain ⟨i, hi, e⟩ := mem_getD (d := 0) hx
        cases hq : elB x with
        | true => rfl
        | false =>
          have := hr.2 ⟨i, by rw [← HNN.out]; exact hi, by show (!elB (a.getD i 0)) = true; rw [e, hq]; rfl⟩
          cases this
    have HK := Lib.hid hk
    have HRE := Lib.hid hre
    clear hk hre
    clear hr
    go_wp2_with fail
    go_ret
    exact ⟨ret_b HRE.out, HK.out⟩
  · have d1 : decide ((a.length : Int) ≤ 6) = false := decide_eq_false (by omega)
    rw [hB, decide_eq_false h6, Bool.false_and]
    generalize hnn : a.length = n at *
    have d2 : decide (n ≤ 6) = false := decide_eq_false h6
    have H1 := Lib.hid h1
    have HANY := Lib.hid hany
    have HNN := Lib.hid hnn
    have HB := Lib.hid hB
    have HA := Lib.hid ha
    clear h1 hany hnn hB ha
    go_enter Tryz.func66, Tryz.ntmps66
    go_wp2_with fail
    go_ret
    exact ⟨rfl, Keeps.refl _ _⟩
set_option maxHeartbeats 400000 in
theorem finite_is {w : World} {l : List Nat} {av : Value} {a : List Int} (ha : IsI w l av a) (hn : a.length ≤ 1000000) : Calls Tryz.prog 46 #[av] w (RetB (vfB a) w) := by
  unfold RetB
  have eg := enters_of Tryz.func81 (by kernel_rfl) rfl
  have hany := anr_ints (w := w) (l := l) (p := fun i => !numB (a.getD i 0)) (show IsL IsN 0 w l av a from ha) hn eg (pred_ints finite1_any l a w)
  obtain ⟨A, c, rfl, _, _, h1⟩ := ha.open
  have hB : vfB a = (decide (a.length ≤ 6) && a.all fun x => numB x) := rfl
  by_cases h6 : a.length ≤ 6
  · have d1 : decide ((a.length : Int) ≤ 6) = true := decide_eq_true (by omega)
    rw [hB, decide_eq_true h6, Bool.true_and]
    generalize hnn : a.length = n at *
    have d2 : decide (n ≤ 6) = true := decide_eq_true h6
    have H1 := Lib.hid h1
    have HANY := Lib.hid hany
    have HNN := Lib.hid hnn
    have HB := Lib.hid hB
    have HA := Lib.hid ha
    clear h1 hany hnn hB ha
    go_enter Tryz.func46, Tryz.ntmps46
    go_wp2_with fail
    refine HANY.out.mono ?_
    rintro e w1 ⟨r, rfl, hr, hk⟩
    have hre : (a.all fun x => numB x) = !r := by
      cases r with
      | true =>
        obtain ⟨i, hi, hq⟩ := hr.1 rfl
        rw [Bool.not_true, List.all_eq_false]
        exact ⟨_, getD_mem (d := 0) (by rw [HNN.out]; exact hi), by simpa using hq⟩
      | false =>
        rw [Bool.not_false, List.all_eq_true]
        intro x hx
        obtain ⟨i, hi, e⟩ := mem_getD (d := 0) hx
        cases hq : numB x with
        | true => rfl
        | false =>
          have := hr.2 ⟨i, by rw [← HNN.out]; exact hi, by show (!numB (a.getD i 0)) = true; rw [e, hq]; rfl⟩
          cases this
    have HK := Lib.hid hk
    have HRE := Lib.hid hre
    clear hk hre
    clear hr
    go_wp2_with fail
    go_ret
    exact ⟨ret_b HRE.out, HK.out⟩
  · have d1 : decide ((a.length : Int) ≤ 6) = false := decide_eq_false (by omega)
    rw [hB, decide_eq_false h6, Bool.false_and]
    generalize hnn : a.length = n at *
    have d2 : decide (n ≤ 6) = false := decide_eq_false h6
    have H1 := Lib.hid h1
    have HANY := Lib.hid hany
    have HNN := Lib.hid hnn
    have HB := Lib.hid hB
    have HA := Lib.hid ha
    clear h1 hany hnn hB ha
    go_enter Tryz.func46, Tryz.ntmps46
    go_wp2_with fail
    go_ret
    exact ⟨rfl, Keeps.refl _ _⟩

def pleB (a b : List Int) : Bool := (List.range a.length).all fun i => decide (a.getD i 0 ≤ b.getD i 0)
theorem pleB_true {a b : List Int} : pleB a b = true ↔ ∀ i, i < a.length → a.getD i 0 ≤ b.getD i 0 := by
  unfold pleB
  rw [List.all_eq_true]
  exact ⟨fun h i hi => by have := h i (List.mem_range.2 hi); simpa using this, fun h i hi => by have := h i (List.mem_range.1 hi); simpa using this⟩
set_option maxHeartbeats 400000 in
theorem below_is {w : World} {l : List Nat} {av bv : Value} {a b : List Int} (ha : IsI w l av a) (hb : IsI w l bv b) (hl : a.length ≤ b.length) (hn : b.length ≤ 1000000) : Calls Tryz.prog 92 #[av, bv] w (RetB (pleB a b) w) := by
  unfold RetB
  obtain ⟨A, c, rfl, _, _, h1⟩ := ha.open
  obtain ⟨B, c', rfl, _, _, h2⟩ := hb.open
  generalize hna : a.length = n at *
  generalize hnb : b.length = m at *
  have H1 := Lib.hid h1
  have H2 := Lib.hid h2
  have HNA := Lib.hid hna
  have HNB := Lib.hid hnb
  have HA := Lib.hid ha
  have HB := Lib.hid hb
  clear h1 h2 hna hnb ha hb
  go_enter Tryz.func92, Tryz.ntmps92
  go_wp2_with fail
  go_loopg [9] (n + 1) (fun gh iv wr => ∃ k : Nat, n + 1 ≤ k + gh ∧ k ≤ n ∧ iv = .int .i64 (k : Int) ∧ (∀ i, i < k → a.getD i 0 ≤ b.getD i 0) ∧ w = wr)
  case atStart => exact ⟨0, by omega, by omega, rfl, fun i hi => by omega, rfl⟩
  case round =>
    obtain ⟨k, hgh, hk, rfl, hs, rfl⟩ := hrel
    have HS := Lib.hid hs
    clear hs
    by_cases hlt : k < n
    · obtain ⟨p, rfl, hp⟩ := H1.out.at_ hlt
      have hlm : k < m := by omega
      obtain ⟨p2, rfl, hp2⟩ := H2.out.at_ hlm
      generalize hx : a.getD k 0 = x at *
      generalize hy : b.getD k 0 = y at *
      have HX := Lib.hid hx
      have HY := Lib.hid hy
      clear hx hy
      by_cases hle : x ≤ y
      · have ht : decide (y < x) = false := decide_eq_false (by omega)
        go_wp2_with fail
        go_roundg (n - k)
        case measure => omega
        case rel => exact ⟨k + 1, by omega, by omega, by go_num, fun i hi => by
          by_cases e : i = k
          · subst e; rw [HX.out, HY.out]; exact hle
          · exact HS.out i (by omega), rfl⟩
      · have ht : decide (y < x) = true := decide_eq_true (by omega)
        have hd : pleB a b = false := by
          rw [← Bool.not_eq_true, pleB_true]
          intro h
          have := h k (by rw [HNA.out]; exact hlt)
          rw [HX.out, HY.out] at this
          exact hle this
        have HD := Lib.hid hd
        clear hd
        go_wp2_with fail
        go_ret
        exact ⟨ret_b HD.out, Keeps.refl _ _⟩
    · obtain rfl : k = n := by omega
      have hd : pleB a b = true := pleB_true.2 fun i hi => HS.out i (by rw [← HNA.out]; exact hi)
      have HD := Lib.hid hd
      clear hd
      go_wp2_with fail
      go_ret
      exact ⟨ret_b HD.out, Keeps.refl _ _⟩
set_option maxHeartbeats 400000 in
theorem above1_is {w : World} {l : List Nat} {av bv : Value} {a b : List Int} (ha : IsI w l av a) (hb : IsI w l bv b) (hl : a.length ≤ b.length) (hn : b.length ≤ 1000000) : Calls Tryz.prog 60 #[av, bv] w (RetB (pleB a b) w) := by
  unfold RetB
  obtain ⟨A, c, rfl, _, _, h1⟩ := ha.open
  obtain ⟨B, c', rfl, _, _, h2⟩ := hb.open
  generalize hna : a.length = n at *
  generalize hnb : b.length = m at *
  have H1 := Lib.hid h1
  have H2 := Lib.hid h2
  have HNA := Lib.hid hna
  have HNB := Lib.hid hnb
  have HA := Lib.hid ha
  have HB := Lib.hid hb
  clear h1 h2 hna hnb ha hb
  go_enter Tryz.func60, Tryz.ntmps60
  go_wp2_with fail
  go_loopg [9] (n + 1) (fun gh iv wr => ∃ k : Nat, n + 1 ≤ k + gh ∧ k ≤ n ∧ iv = .int .i64 (k : Int) ∧ (∀ i, i < k → a.getD i 0 ≤ b.getD i 0) ∧ w = wr)
  case atStart => exact ⟨0, by omega, by omega, rfl, fun i hi => by omega, rfl⟩
  case round =>
    obtain ⟨k, hgh, hk, rfl, hs, rfl⟩ := hrel
    have HS := Lib.hid hs
    clear hs
    by_cases hlt : k < n
    · obtain ⟨p, rfl, hp⟩ := H1.out.at_ hlt
      have hlm : k < m := by omega
      obtain ⟨p2, rfl, hp2⟩ := H2.out.at_ hlm
      generalize hx : a.getD k 0 = x at *
      generalize hy : b.getD k 0 = y at *
      have HX := Lib.hid hx
      have HY := Lib.hid hy
      clear hx hy
      by_cases hle : x ≤ y
      · have ht : decide (y < x) = false := decide_eq_false (by omega)
        go_wp2_with fail
        go_roundg (n - k)
        case measure => omega
        case rel => exact ⟨k + 1, by omega, by omega, by go_num, fun i hi => by
          by_cases e : i = k
          · subst e; rw [HX.out, HY.out]; exact hle
          · exact HS.out i (by omega), rfl⟩
      · have ht : decide (y < x) = true := decide_eq_true (by omega)
        have hd : pleB a b = false := by
          rw [← Bool.not_eq_true, pleB_true]
          intro h
          have := h k (by rw [HNA.out]; exact hlt)
          rw [HX.out, HY.out] at this
          exact hle this
        have HD := Lib.hid hd
        clear hd
        go_wp2_with fail
        go_ret
        exact ⟨ret_b HD.out, Keeps.refl _ _⟩
    · obtain rfl : k = n := by omega
      have hd : pleB a b = true := pleB_true.2 fun i hi => HS.out i (by rw [← HNA.out]; exact hi)
      have HD := Lib.hid hd
      clear hd
      go_wp2_with fail
      go_ret
      exact ⟨ret_b HD.out, Keeps.refl _ _⟩

theorem ple_vlt {a b : List Int} (h : a.length = b.length) : vltB a b = pleB a b := by unfold vltB pleB; rw [decide_eq_true h, Bool.true_and]
set_option maxHeartbeats 400000 in
theorem leq_is {w : World} {l : List Nat} {av bv : Value} {a b : List Int} (ha : IsI w l av a) (hb : IsI w l bv b) (hn : a.length ≤ 1000000) (hm : b.length ≤ 1000000) : Calls Tryz.prog 68 #[av, bv] w (RetB (vleB a b) w) := by
  unfold RetB
  have hB : vleB a b = (vvB a && vvB b && vltB a b) := rfl
  have hva := valid_is ha hn
  have hvb := fun W (k : Keeps [] w W) => valid_is (hb.new k) hm
  have hbe := fun W (k : Keeps [] w W) (h : a.length = b.length) => below_is (ha.new k) (hb.new k) (Nat.le_of_eq h) hm
  have hvl : a.length ≠ b.length → vltB a b = false := fun h => by unfold vltB; rw [decide_eq_false h, Bool.false_and]
  have hvp := fun (h : a.length = b.length) => ple_vlt h
  obtain ⟨A, c, rfl, _, _, h1⟩ := ha.open
  obtain ⟨B, c', rfl, _, _, h2⟩ := hb.open
  generalize hna : a.length = n at *
  generalize hnb : b.length = m at *
  rw [hB]
  generalize vvB a = r1 at *
  generalize vvB b = r2 at *
  generalize vltB a b = r3 at *
  generalize pleB a b = r4 at *
  have H1 := Lib.hid h1
  have H2 := Lib.hid h2
  have HVA := Lib.hid hva
  have HVB := Lib.hid hvb
  have HBE := Lib.hid hbe
  have HVL := Lib.hid hvl
  have HVP := Lib.hid hvp
  have HNA := Lib.hid hna
  have HNB := Lib.hid hnb
  have HB := Lib.hid hB
  have HA := Lib.hid ha
  have HB := Lib.hid hb
  clear h1 h2 hva hvb hbe hvl hvp hna hnb hB ha hb
  cases r1 with
  | false =>
    go_enter Tryz.func68, Tryz.ntmps68
    go_wp2_with fail
    refine HVA.out.mono ?_
    rintro e w1 ⟨rfl, hk⟩
    have HK := Lib.hid hk
    clear hk
    go_wp2_with fail
    go_ret
    exact ⟨rfl, HK.out⟩
  | true =>
    cases r2 with
    | false =>
      go_enter Tryz.func68, Tryz.ntmps68
      go_wp2_with fail
      refine HVA.out.mono ?_
      rintro e w1 ⟨rfl, hk⟩
      have HK := Lib.hid hk
      clear hk
      go_wp2_with fail
      refine (HVB.out w1 HK.out).mono ?_
      rintro e w2 ⟨rfl, hk2⟩
      have hk3 := HK.out.trans hk2
      have HK3 := Lib.hid hk3
      clear hk3
      clear hk2
      go_wp2_with fail
      go_ret
      exact ⟨rfl, HK3.out⟩
    | true =>
      by_cases he : n = m
      · subst he
        have h3 := HVP.out rfl
        subst h3
        have hbq := fun (W : World) (k : Keeps [] w W) => HBE.out W k rfl
        have HBQ := Lib.hid hbq
        clear hbq
        clear HBE
        go_enter Tryz.func68, Tryz.ntmps68
        go_wp2_with fail
        refine HVA.out.mono ?_
        rintro e w1 ⟨rfl, hk⟩
        have HK := Lib.hid hk
        clear hk
        go_wp2_with fail
        refine (HVB.out w1 HK.out).mono ?_
        rintro e w2 ⟨rfl, hk2⟩
        have hk3 := HK.out.trans hk2
        have HK3 := Lib.hid hk3
        clear hk3
        clear hk2
        go_wp2_with fail
        refine (HBQ.out w2 HK3.out).mono ?_
        rintro e w3 ⟨rfl, hk4⟩
        have hk5 := HK3.out.trans hk4
        have HK5 := Lib.hid hk5
        clear hk5
        clear hk4
        go_wp2_with fail
        go_ret
        exact ⟨rfl, HK5.out⟩
      · have ht : ((n : Int) == (m : Int)) = false := by rw [beq_eq_false_iff_ne]; omega
        have h3 := HVL.out he
        subst h3
        have HE := Lib.hid he
        clear he
        go_enter Tryz.func68, Tryz.ntmps68
        go_wp2_with fail
        refine HVA.out.mono ?_
        rintro e w1 ⟨rfl, hk⟩
        have HK := Lib.hid hk
        clear hk
        go_wp2_with fail
        refine (HVB.out w1 HK.out).mono ?_
        rintro e w2 ⟨rfl, hk2⟩
        have hk3 := HK.out.trans hk2
        have HK3 := Lib.hid hk3
        clear hk3
        clear hk2
        go_wp2_with fail
        go_ret
        exact ⟨rfl, HK3.out⟩
end Go.Proofs.YtnmkinaokjekjaaGreat
