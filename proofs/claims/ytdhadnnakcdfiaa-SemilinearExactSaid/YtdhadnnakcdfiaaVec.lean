/- The walks of the reference's Order, Compare and Same on slices of ints. -/
import Derived.Test.YtdhadnnakcdfiaaChecked
import Derived.Test.YtdhadnnakcdfiaaBase
import Derived.WalkSpells
import Derived.Deep.QuietTactic
import Derived.BigQuiet
namespace Go.Proofs.Ytdhadnnakcdfiaa
set_option linter.unusedVariables false
open Go.RowKit

theorem drew3 (w : World) (a b c : Nat) : ∃ q, ((w.drewN a).drewN b).drewN c = w.drewN q := ⟨a + b + c, by simp only [World.drewN_drewN]⟩

def ord (a b : Int) : Int := if a < b then -1 else if b < a then 1 else 0
theorem ret_in {k : IntKind} {a b : Int} (h : a = b) : Ending.returned (.int k a) = .returned (.int k b) := by rw [h]
theorem ret_bo {a b : Bool} (h : a = b) : Ending.returned (.bool a) = .returned (.bool b) := by rw [h]

set_option maxHeartbeats 400000 in
theorem order_any (a b : Int) (w : World) : Calls Try.prog 41 #[.int .i64 a, .int .i64 b] w fun e w' => e = .returned (.int .i64 (ord a b)) ∧ w = w' := by
  by_cases h1 : a < b
  · have e : Hid (ord a b = -1) := if_pos h1
    go_enter Try.func41, Try.ntmps41
    go_wp2_with fail
    go_ret
    exact ⟨ret_in e.out.symm, rfl⟩
  · by_cases h2 : b < a
    · have e : Hid (ord a b = 1) := by unfold Hid ord; rw [if_neg h1, if_pos h2]
      go_enter Try.func41, Try.ntmps41
      go_wp2_with fail
      go_ret
      exact ⟨ret_in e.out.symm, rfl⟩
    · have e : Hid (ord a b = 0) := by unfold Hid ord; rw [if_neg h1, if_neg h2]
      go_enter Try.func41, Try.ntmps41
      go_wp2_with fail
      go_ret
      exact ⟨ret_in e.out.symm, rfl⟩

/-- What the comparison of two lists of numbers gives. -/
def Cmp (n n' : Nat) (f g : Nat → Int) (c : Int) : Prop :=
  (n ≠ n' ∧ c = ord n n') ∨ (n = n' ∧ ∃ k, k < n ∧ (∀ i, i < k → f i = g i) ∧ f k ≠ g k ∧ c = ord (f k) (g k)) ∨ (n = n' ∧ (∀ i, i < n → f i = g i) ∧ c = 0)

theorem Cmp.zero {n n' : Nat} {f g : Nat → Int} {c : Int} (h : Cmp n n' f g c) : c = 0 ↔ n = n' ∧ ∀ i, i < n → f i = g i := by
  rcases h with ⟨h1, rfl⟩ | ⟨h1, k, h2, h3, h4, rfl⟩ | ⟨h1, h2, rfl⟩
  · refine ⟨fun h => ?_, fun h => absurd h.1 h1⟩
    unfold ord at h; split at h
    · omega
    · split at h <;> omega
  · refine ⟨fun h => ?_, fun h => absurd (h.2 k h2) h4⟩
    unfold ord at h; split at h
    · omega
    · split at h <;> omega
  · exact ⟨fun _ => ⟨h1, h2⟩, fun _ => rfl⟩

def CmpPost (n n' : Nat) (f g : Nat → Int) (w : World) (e : Ending) (w' : World) : Prop := ∃ c, e = .returned (.int .i64 c) ∧ Cmp n n' f g c ∧ ∃ q, w' = w.drewN q

set_option maxHeartbeats 400000 in
theorem compare_any (w : World) (B B' n n' c c' : Nat) (A A' : Option Addr) (f g : Nat → Int) (hf : Rd w B A n (fun i => .int .i64 (f i))) (hg : Rd w B' A' n' (fun i => .int .i64 (g i))) (hn : n ≤ 1000000000) (hn' : n' ≤ 1000000000) :
    Calls Try.prog 17 #[.slice A n c, .slice A' n' c'] w (CmpPost n n' f g w) := by
  have HF := Lib.hid hf
  have HG := Lib.hid hg
  clear hf hg
  by_cases hne : n = n'
  · subst hne
    go_enter Try.func17, Try.ntmps17
    go_wp2_with fail
    go_loopg [5] (n + 1) (fun gh iv wr => ∃ i : Nat, n + 1 ≤ i + gh ∧ i ≤ n ∧ iv = .int .i64 (i : Int) ∧ (∀ r, r < i → f r = g r) ∧ ∃ q, wr = w.drewN q)
    case atStart => exact ⟨0, by omega, by omega, rfl, fun r hr => by omega, 0, rfl⟩
    case round =>
      obtain ⟨i, hgh, hi, rfl, hs, q, rfl⟩ := hrel
      have HS := Lib.hid hs
      clear hs
      by_cases hlt : i < n
      · obtain ⟨a, rfl, _, ha⟩ := HF.out.at_ hlt
        obtain ⟨b, rfl, _, hb⟩ := HG.out.at_ hlt
        by_cases he : f i = g i
        · have ht : (f i != g i) = false := by simp [he]
          have HE := Lib.hid he
          clear he
          go_wp2_with fail
          go_quiet (fail)
          go_wp2_with fail
          go_roundg (n - i)
          case measure => omega
          case rel => exact ⟨i + 1, by omega, by omega, by go_num, fun r hr => by
            by_cases e : r = i
            · subst e; exact HE.out
            · exact HS.out r (by omega), _, rfl⟩
        · have ht : (f i != g i) = true := by simp [he]
          have HE := Lib.hid he
          clear he
          go_wp2_with fail
          go_quiet (fail)
          go_wp2_with fail
          go_quiet ((go_at_call 41; exact (order_any _ _ _).mono fun e w' h => ⟨h.1, _, h.2.symm⟩))
          go_wp2_with fail
          go_ret
          exact ⟨_, rfl, .inr (.inl ⟨rfl, i, hlt, HS.out, HE.out, rfl⟩), drew3 _ _ _ _⟩
      · obtain rfl : i = n := by omega
        go_wp2_with fail
        go_ret
        exact ⟨0, rfl, .inr (.inr ⟨rfl, HS.out, rfl⟩), _, rfl⟩
  · have ht : ((n : Int) != (n' : Int)) = true := by rw [bne_iff_ne]; omega
    go_enter Try.func17, Try.ntmps17
    go_wp2_with fail
    refine (order_any n n' w).mono ?_
    rintro e w' ⟨rfl, rfl⟩
    go_wp2_with fail
    go_ret
    exact ⟨_, rfl, .inl ⟨hne, rfl⟩, 0, rfl⟩

def SamePost (n n' : Nat) (f g : Nat → Int) (w : World) (e : Ending) (w' : World) : Prop := ∃ b : Bool, e = .returned (.bool b) ∧ (b = true ↔ n = n' ∧ ∀ i, i < n → f i = g i) ∧ ∃ q, w' = w.drewN q

set_option maxHeartbeats 400000 in
theorem same_any (w : World) (B B' n n' c c' : Nat) (A A' : Option Addr) (f g : Nat → Int) (hf : Rd w B A n (fun i => .int .i64 (f i))) (hg : Rd w B' A' n' (fun i => .int .i64 (g i))) (hn : n ≤ 1000000000) (hn' : n' ≤ 1000000000) :
    Calls Try.prog 24 #[.slice A n c, .slice A' n' c'] w (SamePost n n' f g w) := by
  have HF := Lib.hid hf
  have HG := Lib.hid hg
  clear hf hg
  go_enter Try.func24, Try.ntmps24
  go_wp2_with fail
  refine (compare_any w B B' n n' c c' A A' f g HF.out HG.out hn hn').mono ?_
  rintro e w' ⟨x, rfl, hx, q, rfl⟩
  have HX := Lib.hid hx.zero
  clear hx
  go_wp2_with fail
  go_ret
  exact ⟨_, rfl, by rw [← HX.out, beq_iff_eq], _, rfl⟩
end Go.Proofs.Ytdhadnnakcdfiaa
