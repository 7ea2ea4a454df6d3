/- The walks of cmp.Compare, cmp.Or, slices.Compare, slices.Equal and slices.Index at ints, in the words of Rep. -/
import Derived.Test.YtnmkinaokjekjaaGreatCmpL
import Derived.Test.YtnmkinaokjekjaaGreatNow
namespace Go.Proofs.YtnmkinaokjekjaaGreat
set_option linter.unusedVariables false
open Go.RowKit

def lexS : List Int → List Int → Int
  | [], [] => 0
  | [], _ :: _ => -1
  | _ :: _, [] => 1
  | x :: a, y :: b => if x = y then lexS a b else ord x y
theorem lexS_at : ∀ {a b : List Int} {k : Nat}, k < a.length → k < b.length → (∀ i, i < k → a.getD i 0 = b.getD i 0) → a.getD k 0 ≠ b.getD k 0 → lexS a b = ord (a.getD k 0) (b.getD k 0)
  | [], _, k, hk, _, _, _ => by simp at hk
  | x :: a, [], k, _, hk, _, _ => by simp at hk
  | x :: a, y :: b, 0, _, _, _, hne => by
    simp only [List.getD_cons_zero] at hne ⊢
    rw [lexS, if_neg hne]
  | x :: a, y :: b, k + 1, h1, h2, he, hne => by
    have h0 := he 0 (by omega)
    simp only [List.getD_cons_zero] at h0
    simp only [List.getD_cons_succ] at hne ⊢
    rw [lexS, if_pos h0]
    exact lexS_at (by simpa using h1) (by simpa using h2) (fun i hi => by have := he (i + 1) (by omega); simpa using this) hne
theorem lexS_end : ∀ {a b : List Int}, (∀ i, i < a.length → i < b.length → a.getD i 0 = b.getD i 0) → lexS a b = ord a.length b.length
  | [], [], _ => by simp [lexS, ord]
  | [], y :: b, _ => by rw [lexS]; unfold ord; rw [if_pos (by simp only [List.length_nil, List.length_cons]; omega)]
  | x :: a, [], _ => by rw [lexS]; unfold ord; rw [if_neg (by simp only [List.length_nil, List.length_cons]; omega), if_pos (by simp only [List.length_nil, List.length_cons]; omega)]
  | x :: a, y :: b, h => by
    have h0 := h 0 (by simp) (by simp)
    simp only [List.getD_cons_zero] at h0
    rw [lexS, if_pos h0, lexS_end (fun i h1 h2 => by have := h (i + 1) (by simpa using h1) (by simpa using h2); simpa using this)]
    unfold ord
    simp
theorem lexS_lexc : ∀ {a b : List Int}, a.length = b.length → lexS a b = lexc a b
  | [], [], _ => rfl
  | x :: a, y :: b, h => by rw [lexS, lexc, lexS_lexc (by simpa using h)]
  | [], _ :: _, h => by simp at h
  | _ :: _, [], h => by simp at h
def orL : List Int → Int
  | [] => 0
  | x :: xs => if x ≠ 0 then x else orL xs
theorem orL_at : ∀ {xs : List Int} {k : Nat}, k < xs.length → (∀ i, i < k → xs.getD i 0 = 0) → xs.getD k 0 ≠ 0 → orL xs = xs.getD k 0
  | [], k, h, _, _ => by simp at h
  | x :: xs, 0, _, _, h => by simp only [List.getD_cons_zero] at h ⊢; rw [orL, if_pos h]
  | x :: xs, k + 1, h, h0, h1 => by
    have := h0 0 (by omega)
    simp only [List.getD_cons_zero] at this
    rw [orL, if_neg (by simpa using this), List.getD_cons_succ]
    exact orL_at (by simpa using h) (fun i hi => by have := h0 (i + 1) (by omega); simpa using this) (by simpa using h1)
theorem orL_end : ∀ {xs : List Int}, (∀ i, i < xs.length → xs.getD i 0 = 0) → orL xs = 0
  | [], _ => rfl
  | x :: xs, h => by
    have := h 0 (by simp)
    simp only [List.getD_cons_zero] at this
    rw [orL, if_neg (by simpa using this)]
    exact orL_end (fun i hi => by have := h (i + 1) (by simpa using hi); simpa using this)
theorem cmpL_or (a b : List Int) : orL [ord a.length b.length, lexS a b] = cmpL a b := by
  unfold cmpL
  by_cases h : a.length = b.length
  · rw [if_pos h, h, orL, if_neg (by simp [ord]), orL, lexS_lexc h]
    by_cases h0 : lexc a b = 0
    · rw [if_neg (by simpa using h0), h0]; rfl
    · rw [if_pos h0]
  · rw [if_neg h, orL, if_pos]
    intro h0; exact h (by have := ord_zero.1 h0; omega)

theorem ret_ni {a b : Int} (h : b = a) : Ending.returned (.int .i64 a) = .returned (.int .i64 b) := by rw [h]

set_option maxHeartbeats 400000 in
theorem nan_any (x : Int) (w : World) : Calls Tryz.prog 93 #[.int .i64 x] w fun e w' => e = .returned (.bool false) ∧ ∃ q, w' = w.drewN q := by
  have h : (x != x) = false := by simp
  go_enter Tryz.func93, Tryz.ntmps93
  go_wp2
  go_ret
  exact ⟨rfl, 0, rfl⟩

set_option maxHeartbeats 400000 in
theorem cmp_any (a b : Int) (w : World) : Calls Tryz.prog 70 #[.int .i64 a, .int .i64 b] w (Quiet (.int .i64 (ord a b)) w) := by
  unfold Quiet
  by_cases h1 : a < b
  · have e : Hid (ord a b = -1) := if_pos h1
    go_enter Tryz.func70, Tryz.ntmps70
    go_wp2_with fail
    refine (nan_any a w).mono ?_
    rintro e1 w1 ⟨rfl, q, rfl⟩
    go_wp2_with fail
    refine (nan_any b _).mono ?_
    rintro e1 w1 ⟨rfl, q', rfl⟩
    go_wp2_with fail
    go_ret
    exact ⟨ret_ni e.out, _, rfl⟩
  · by_cases h2 : b < a
    · have e : Hid (ord a b = 1) := by unfold Hid ord; rw [if_neg h1, if_pos h2]
      go_enter Tryz.func70, Tryz.ntmps70
      go_wp2_with fail
      refine (nan_any a w).mono ?_
      rintro e1 w1 ⟨rfl, q, rfl⟩
      go_wp2_with fail
      refine (nan_any b _).mono ?_
      rintro e1 w1 ⟨rfl, q', rfl⟩
      go_wp2_with fail
      go_ret
      exact ⟨ret_ni e.out, _, rfl⟩
    · have e : Hid (ord a b = 0) := by unfold Hid ord; rw [if_neg h1, if_neg h2]
      go_enter Tryz.func70, Tryz.ntmps70
      go_wp2_with fail
      refine (nan_any a w).mono ?_
      rintro e1 w1 ⟨rfl, q, rfl⟩
      go_wp2_with fail
      refine (nan_any b _).mono ?_
      rintro e1 w1 ⟨rfl, q', rfl⟩
      go_wp2_with fail
      go_ret
      exact ⟨ret_ni e.out, _, rfl⟩

theorem ord_ne {a b : Int} (h : a ≠ b) : (ord a b != 0) = true := by unfold ord; split; rfl; split; rfl; omega
theorem ord_eq (a : Int) : ord a a = 0 := by unfold ord; rw [if_neg (by omega), if_neg (by omega)]

set_option maxHeartbeats 400000 in
theorem scompare_is {w : World} {l : List Nat} {av bv : Value} {a b : List Int} (ha : IsI w l av a) (hb : IsI w l bv b) (hn : a.length ≤ 1000000) (hm : b.length ≤ 1000000) : Calls Tryz.prog 71 #[av, bv] w (Quiet (.int .i64 (lexS a b)) w) := by
  obtain ⟨A, c, rfl, _, _, h1⟩ := ha.open
  obtain ⟨B, c', rfl, _, _, h2⟩ := hb.open
  unfold Quiet
  clear ha hb
  generalize hna : a.length = n at *
  generalize hnb : b.length = m at *
  have H1 := Lib.hid h1
  have H2 := Lib.hid h2
  have HNA := Lib.hid hna
  have HNB := Lib.hid hnb
  clear h1 h2 hna hnb
  go_enter Tryz.func71, Tryz.ntmps71
  go_wp2_with fail
  go_loopg [5, 6, 7, 8, 11] (n + 1) (fun gh _ _ _ _ iv wr => ∃ i : Nat, n + 1 ≤ i + gh ∧ i ≤ n ∧ i ≤ m ∧ iv = .int .i64 (i : Int) ∧ (∀ r, r < i → a.getD r 0 = b.getD r 0) ∧ ∃ q, wr = w.drewN q)
  case atStart => exact ⟨0, by omega, by omega, by omega, rfl, fun r hr => by omega, 0, rfl⟩
  case round =>
    obtain ⟨i, hgh, hi, him, rfl, hs, q, rfl⟩ := hrel
    have HS := Lib.hid hs
    clear hs
    by_cases hlt : i < n
    · obtain ⟨p, rfl, hp⟩ := H1.out.at_ hlt
      by_cases hltm : i < m
      · obtain ⟨p2, rfl, hp2⟩ := H2.out.at_ hltm
        generalize hx : a.getD i 0 = x at *
        generalize hy : b.getD i 0 = y at *
        have HX := Lib.hid hx
        have HY := Lib.hid hy
        clear hx hy
        by_cases he : x = y
        · have ht : (ord x y != 0) = false := by rw [he, ord_eq]; rfl
          have HE := Lib.hid he
          clear he
          go_wp2_with fail
          refine (cmp_any x y _).mono ?_
          rintro e w1 ⟨rfl, q1, rfl⟩
          go_wp2_with fail
          go_roundg (n - i)
          case measure => omega
          case rel => exact ⟨i + 1, by omega, by omega, by omega, by go_num, fun r hr => by
            by_cases e : r = i
            · subst e; rw [HX.out, HY.out]; exact HE.out
            · exact HS.out r (by omega), _, rfl⟩
        · have ht := ord_ne he
          have HE := Lib.hid he
          clear he
          go_wp2_with fail
          refine (cmp_any x y _).mono ?_
          rintro e w1 ⟨rfl, q1, rfl⟩
          go_wp2_with fail
          go_ret
          exact ⟨ret_ni (by rw [lexS_at (k := i) (by rw [HNA.out]; exact hlt) (by rw [HNB.out]; exact hltm) HS.out (by rw [HX.out, HY.out]; exact HE.out), HX.out, HY.out]), _, rfl⟩
      · obtain rfl : i = m := by omega
        have hd1 : decide (n < i) = false := by simp; omega
        go_wp2_with fail
        go_ret
        exact ⟨ret_ni (by rw [lexS_end fun j h1 h2 => HS.out j (by rw [HNB.out] at h2; exact h2), HNA.out, HNB.out]; unfold ord; rw [if_neg (by omega), if_pos (by omega)]), _, rfl⟩
    · obtain rfl : i = n := by omega
      by_cases hltm : i < m
      · go_wp2_with fail
        go_ret
        exact ⟨ret_ni (by rw [lexS_end fun j h1 h2 => HS.out j (by rw [HNA.out] at h1; exact h1), HNA.out, HNB.out]; unfold ord; rw [if_pos (by omega)]), _, rfl⟩
      · go_wp2_with fail
        go_ret
        exact ⟨ret_ni (by rw [lexS_end fun j h1 h2 => HS.out j (by rw [HNA.out] at h1; exact h1), HNA.out, HNB.out]; unfold ord; rw [if_neg (by omega), if_neg (by omega)]), _, rfl⟩

end Go.Proofs.YtnmkinaokjekjaaGreat
