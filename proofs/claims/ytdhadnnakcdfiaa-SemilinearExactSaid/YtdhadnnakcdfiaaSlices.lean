/- The walks of cmp.Compare, slices.Compare and slices.Equal at ints. -/
import Derived.Test.YtdhadnnakcdfiaaVec
import Derived.Test.YtdhadnnakcdfiaaFuncs
namespace Go.Proofs.Ytdhadnnakcdfiaa
set_option linter.unusedVariables false
open Go.RowKit

theorem ret_ni {a b : Int} (h : b = a) : Ending.returned (.int .i64 a) = .returned (.int .i64 b) := by rw [h]

set_option maxHeartbeats 400000 in
theorem nan_any (x : Int) (w : World) : Calls Try.prog 84 #[.int .i64 x] w fun e w' => e = .returned (.bool false) ∧ ∃ q, w' = w.drewN q := by
  have h : (x != x) = false := by simp
  go_enter Try.func84, Try.ntmps84
  go_wp2
  go_ret
  exact ⟨rfl, 0, rfl⟩

set_option maxHeartbeats 400000 in
theorem cmp_any (a b : Int) (w : World) : Calls Try.prog 71 #[.int .i64 a, .int .i64 b] w fun e w' => e = .returned (.int .i64 (ord a b)) ∧ ∃ q, w' = w.drewN q := by
  by_cases h1 : a < b
  · have e : Hid (ord a b = -1) := if_pos h1
    go_enter Try.func71, Try.ntmps71
    go_wp2_with fail
    refine (nan_any a w).mono ?_
    rintro e1 w1 ⟨rfl, q, rfl⟩
    go_wp2_with fail
    refine (nan_any b _).mono ?_
    rintro e1 w1 ⟨rfl, q', rfl⟩
    go_wp2_with fail
    go_ret
    exact ⟨ret_ni e.out, _, rfl⟩
  · by_cases h2 : b < a
    · have e : Hid (ord a b = 1) := by unfold Hid ord; rw [if_neg h1, if_pos h2]
      go_enter Try.func71, Try.ntmps71
      go_wp2_with fail
      refine (nan_any a w).mono ?_
      rintro e1 w1 ⟨rfl, q, rfl⟩
      go_wp2_with fail
      refine (nan_any b _).mono ?_
      rintro e1 w1 ⟨rfl, q', rfl⟩
      go_wp2_with fail
      go_ret
      exact ⟨ret_ni e.out, _, rfl⟩
    · have e : Hid (ord a b = 0) := by unfold Hid ord; rw [if_neg h1, if_neg h2]
      go_enter Try.func71, Try.ntmps71
      go_wp2_with fail
      refine (nan_any a w).mono ?_
      rintro e1 w1 ⟨rfl, q, rfl⟩
      go_wp2_with fail
      refine (nan_any b _).mono ?_
      rintro e1 w1 ⟨rfl, q', rfl⟩
      go_wp2_with fail
      go_ret
      exact ⟨ret_ni e.out, _, rfl⟩

theorem ord_ne {a b : Int} (h : a ≠ b) : (ord a b != 0) = true := by unfold ord; split; rfl; split; rfl; omega
theorem ord_eq (a : Int) : ord a a = 0 := by unfold ord; rw [if_neg (by omega), if_neg (by omega)]

set_option maxHeartbeats 400000 in
theorem scompare_any (w : World) (B B' n c c' : Nat) (A A' : Option Addr) (f g : Nat → Int) (hf : Rd w B A n (fun i => .int .i64 (f i))) (hg : Rd w B' A' n (fun i => .int .i64 (g i))) (hn : n ≤ 1000000000) :
    Calls Try.prog 57 #[.slice A n c, .slice A' n c'] w (CmpPost n n f g w) := by
  have HF := Lib.hid hf
  have HG := Lib.hid hg
  clear hf hg
  go_enter Try.func57, Try.ntmps57
  go_wp2_with fail
  go_loopg [5, 6, 7, 8, 11] (n + 1) (fun gh _ _ _ _ iv wr => ∃ i : Nat, n + 1 ≤ i + gh ∧ i ≤ n ∧ iv = .int .i64 (i : Int) ∧ (∀ r, r < i → f r = g r) ∧ ∃ q, wr = w.drewN q)
  case atStart => exact ⟨0, by omega, by omega, rfl, fun r hr => by omega, 0, rfl⟩
  case round =>
    obtain ⟨i, hgh, hi, rfl, hs, q, rfl⟩ := hrel
    have HS := Lib.hid hs
    clear hs
    by_cases hlt : i < n
    · obtain ⟨a, rfl, _, ha⟩ := HF.out.at_ hlt
      obtain ⟨b, rfl, _, hb⟩ := HG.out.at_ hlt
      by_cases he : f i = g i
      · have ht : (ord (f i) (g i) != 0) = false := by rw [he, ord_eq]; rfl
        have HE := Lib.hid he
        clear he
        go_wp2_with fail
        refine (cmp_any (f i) (g i) _).mono ?_
        rintro e w1 ⟨rfl, q1, rfl⟩
        go_wp2_with fail
        go_roundg (n - i)
        case measure => omega
        case rel => exact ⟨i + 1, by omega, by omega, by go_num, fun r hr => by
          by_cases e : r = i
          · subst e; exact HE.out
          · exact HS.out r (by omega), _, rfl⟩
      · have ht := ord_ne he
        have HE := Lib.hid he
        clear he
        go_wp2_with fail
        refine (cmp_any (f i) (g i) _).mono ?_
        rintro e w1 ⟨rfl, q1, rfl⟩
        go_wp2_with fail
        go_ret
        exact ⟨_, rfl, .inr (.inl ⟨rfl, i, hlt, HS.out, HE.out, rfl⟩), _, rfl⟩
    · obtain rfl : i = n := by omega
      go_wp2_with fail
      go_ret
      exact ⟨0, rfl, .inr (.inr ⟨rfl, HS.out, rfl⟩), _, rfl⟩

set_option maxHeartbeats 400000 in
theorem equal_any (w : World) (B B' n n' c c' : Nat) (A A' : Option Addr) (f g : Nat → Int) (hf : Rd w B A n (fun i => .int .i64 (f i))) (hg : Rd w B' A' n' (fun i => .int .i64 (g i))) (hn : n ≤ 1000000000) (hn' : n' ≤ 1000000000) :
    Calls Try.prog 40 #[.slice A n c, .slice A' n' c'] w (SamePost n n' f g w) := by
  have HF := Lib.hid hf
  have HG := Lib.hid hg
  clear hf hg
  by_cases hne : n = n'
  · subst hne
    go_enter Try.func40, Try.ntmps40
    go_wp2_with fail
    go_loopg [5, 13] (n + 1) (fun gh _ iv wr => ∃ i : Nat, n + 1 ≤ i + gh ∧ i ≤ n ∧ iv = .int .i64 (i : Int) ∧ (∀ r, r < i → f r = g r) ∧ ∃ q, wr = w.drewN q)
    case atStart => exact ⟨0, by omega, by omega, rfl, fun r hr => by omega, 0, rfl⟩
    case round =>
      obtain ⟨i, hgh, hi, rfl, hs, q, rfl⟩ := hrel
      have HS := Lib.hid hs
      clear hs
      by_cases hlt : i < n
      · obtain ⟨a, rfl, _, ha⟩ := HF.out.at_ hlt
        obtain ⟨b, rfl, _, hb⟩ := HG.out.at_ hlt
        by_cases he : f i = g i
        · have ht : (f i != g i) = false := by simp [he]
          have HE := Lib.hid he
          clear he
          go_wp2_with fail
          go_quiet (fail)
          go_wp2_with fail
          go_roundg (n - i)
          case measure => omega
          case rel => exact ⟨i + 1, by omega, by omega, by go_num, fun r hr => by
            by_cases e : r = i
            · subst e; exact HE.out
            · exact HS.out r (by omega), _, rfl⟩
        · have ht : (f i != g i) = true := by simp [he]
          have HE := Lib.hid he
          clear he
          go_wp2_with fail
          go_quiet (fail)
          go_wp2_with fail
          go_ret
          exact ⟨false, rfl, ⟨fun h => (by cases h), fun h => absurd (h.2 i hlt) HE.out⟩, _, World.drewN_drewN _ _ _⟩
      · obtain rfl : i = n := by omega
        go_wp2_with fail
        go_ret
        exact ⟨true, rfl, ⟨fun _ => ⟨rfl, HS.out⟩, fun _ => rfl⟩, _, rfl⟩
  · have ht : ((n : Int) != (n' : Int)) = true := by rw [bne_iff_ne]; omega
    go_enter Try.func40, Try.ntmps40
    go_wp2_with fail
    go_ret
    exact ⟨false, rfl, ⟨fun h => (by cases h), fun h => absurd h.1 hne⟩, 0, rfl⟩
end Go.Proofs.Ytdhadnnakcdfiaa
