/- slices.IndexFunc and ContainsFunc at rows of numbers. -/
import Derived.Test.YtdhadnnakcdfiaaAny
namespace Go.Proofs.Ytdhadnnakcdfiaa
set_option linter.unusedVariables false
open Go.RowKit


set_option maxHeartbeats 400000 in
theorem ixr_rows {w : World} {l : List Nat} {x : Value} {xs : List (List Int)} {g : Nat} {lb : Array Value} {p : Nat → Bool} (h : IsL IsI [] w l x xs) (hn : xs.length ≤ 1000000)
    (eg : ∀ args w, (callFunc g args).run Try.prog w = .ok (.enter g args) w) (hp : PredR IsI [] g lb l xs p w) :
    Calls Try.prog 64 #[x, .func (.func g) #[] lb] w (IxPost xs.length p w) := by
  obtain ⟨A, c, V, rfl, _, _, hc, hv⟩ := h
  generalize hnn : xs.length = n at *
  have HC := Lib.hid hc
  have HV := Lib.hid hv
  have HNN := Lib.hid hnn
  clear hc hv hnn
  have HP := Lib.hid hp
  clear hp
  go_enter Try.func64, Try.ntmps64
  go_wp2_with fail
  go_loopg [5, 8] (n + 1) (fun gh _ iv wr => ∃ i : Nat, n + 1 ≤ i + gh ∧ i ≤ n ∧ iv = .int .i64 (i : Int) ∧ (∀ r, r < i → p r = false) ∧ Keeps [] w wr)
  case atStart => exact ⟨0, by omega, by omega, rfl, fun r hr => by omega, Keeps.refl _ _⟩
  case round =>
    obtain ⟨i, hgh, hi, rfl, hs, hb⟩ := hrel
    have HS := Lib.hid hs
    have HB := Lib.hid hb
    clear hs hb
    by_cases hlt : i < n
    · obtain ⟨a, rfl, ha⟩ := (HC.out.keeps (HB.out.nil l)).at_ hlt
      have h3 := Rok.keeps (HV.out i hlt) (HB.out.nil l)
      have hcall := HP.out wr i (V i) (by rw [HNN.out]; exact hlt) HB.out h3
      obtain ⟨Ai, ci, hvi, _⟩ := h3.open; rw [hvi] at ha hcall; clear hvi
      clear h3
      cases hq : p i with
      | true =>
        rw [hq] at hcall
        have HQ := Lib.hid hq
        clear hq
        go_wp2_with (go_at_fn g; refine hcall.mono ?_; rintro e w' ⟨rfl, hb'⟩)
        go_ret
        exact ⟨i, rfl, ⟨fun _ => ⟨i, hlt, HQ.out⟩, fun _ => by omega⟩, HB.out.trans hb'⟩
      | false =>
        rw [hq] at hcall
        have HQ := Lib.hid hq
        clear hq
        go_wp2_with (go_at_fn g; refine hcall.mono ?_; rintro e w' ⟨rfl, hb'⟩)
        go_roundg (n - i)
        case measure => omega
        case rel => exact ⟨i + 1, by omega, by omega, by go_num, fun r hr => by
          by_cases e : r = i
          · subst e; exact HQ.out
          · exact HS.out r (by omega), HB.out.trans hb'⟩
    · obtain rfl : i = n := by omega
      go_wp2_with fail
      go_ret
      exact ⟨-1, rfl, ⟨fun h => by omega, fun ⟨r, h1, h2⟩ => by rw [HS.out r h1] at h2; cases h2⟩, HB.out⟩

set_option maxHeartbeats 400000 in
theorem anr_rows {w : World} {l : List Nat} {x : Value} {xs : List (List Int)} {g : Nat} {lb : Array Value} {p : Nat → Bool} (h : IsL IsI [] w l x xs) (hn : xs.length ≤ 1000000)
    (eg : ∀ args w, (callFunc g args).run Try.prog w = .ok (.enter g args) w) (hp : PredR IsI [] g lb l xs p w) :
    Calls Try.prog 45 #[x, .func (.func g) #[] lb] w (AnPost xs.length p w) := by
  have h' := h
  obtain ⟨A, c, V, rfl, _⟩ := h'
  go_enter Try.func45, Try.ntmps45
  go_wp2_with fail
  refine (ixr_rows h hn eg hp).mono ?_
  rintro e w1 ⟨r, rfl, hr, hb⟩
  have HR := Lib.hid hr
  clear hr
  go_wp2_with fail
  go_ret
  exact ⟨_, rfl, by rw [← HR.out]; exact decide_eq_true_iff, hb⟩
end Go.Proofs.Ytdhadnnakcdfiaa
