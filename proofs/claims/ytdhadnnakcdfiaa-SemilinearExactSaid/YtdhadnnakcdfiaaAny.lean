/- slices.IndexFunc and ContainsFunc at numbers and at rows of numbers, in the words of Rep. -/
import Derived.Test.YtdhadnnakcdfiaaChecked
import Derived.Test.YtdhadnnakcdfiaaPush
import Derived.WalkSpells
import Derived.Shelf.Abstract
import Derived.Deep.QuietTactic
import Derived.BigQuiet
namespace Go.Proofs.Ytdhadnnakcdfiaa
set_option linter.unusedVariables false
open Go.RowKit

/-- Function value g, captures lb, answers of element i as p does, in every world that holds what w holds. -/
def PredR {α : Type} (R : Rp α) (d : α) (g : Nat) (lb : Array Value) (l : List Nat) (xs : List α) (p : Nat → Bool) (w : World) : Prop :=
  ∀ (W : World) (i : Nat) (u : Value), i < xs.length → Keeps [] w W → R W l u (xs.getD i d) → Calls Try.prog g (#[u] ++ lb) W fun e w' => e = .returned (.bool (p i)) ∧ Keeps [] W w'
def IxPost (n : Nat) (p : Nat → Bool) (w : World) (e : Ending) (w' : World) : Prop := ∃ r : Int, e = .returned (.int .i64 r) ∧ (0 ≤ r ↔ ∃ i, i < n ∧ p i = true) ∧ Keeps [] w w'
def AnPost (n : Nat) (p : Nat → Bool) (w : World) (e : Ending) (w' : World) : Prop := ∃ r : Bool, e = .returned (.bool r) ∧ (r = true ↔ ∃ i, i < n ∧ p i = true) ∧ Keeps [] w w'

theorem predR_mono {α : Type} {R : Rp α} {d : α} {g : Nat} {lb : Array Value} {l : List Nat} {xs : List α} {p : Nat → Bool} {w w' : World} (h : PredR R d g lb l xs p w) (k : Keeps [] w w') : PredR R d g lb l xs p w' :=
  fun W i u hi hk hu => h W i u hi (k.trans hk) hu



set_option maxHeartbeats 400000 in
theorem ixr_ints {w : World} {l : List Nat} {x : Value} {xs : List Int} {g : Nat} {lb : Array Value} {p : Nat → Bool} (h : IsL IsN 0 w l x xs) (hn : xs.length ≤ 1000000)
    (eg : ∀ args w, (callFunc g args).run Try.prog w = .ok (.enter g args) w) (hp : PredR IsN 0 g lb l xs p w) :
    Calls Try.prog 72 #[x, .func (.func g) #[] lb] w (IxPost xs.length p w) := by
  obtain ⟨A, c, V, rfl, _, _, hc, hv⟩ := h
  generalize hnn : xs.length = n at *
  have HC := Lib.hid hc
  have HV := Lib.hid hv
  have HNN := Lib.hid hnn
  clear hc hv hnn
  have HP := Lib.hid hp
  clear hp
  go_enter Try.func72, Try.ntmps72
  go_wp2_with fail
  go_loopg [5, 8] (n + 1) (fun gh _ iv wr => ∃ i : Nat, n + 1 ≤ i + gh ∧ i ≤ n ∧ iv = .int .i64 (i : Int) ∧ (∀ r, r < i → p r = false) ∧ Keeps [] w wr)
  case atStart => exact ⟨0, by omega, by omega, rfl, fun r hr => by omega, Keeps.refl _ _⟩
  case round =>
    obtain ⟨i, hgh, hi, rfl, hs, hb⟩ := hrel
    have HS := Lib.hid hs
    have HB := Lib.hid hb
    clear hs hb
    by_cases hlt : i < n
    · obtain ⟨a, rfl, ha⟩ := (HC.out.keeps (HB.out.nil l)).at_ hlt
      have h3 := Rok.keeps (HV.out i hlt) (HB.out.nil l)
      have hcall := HP.out wr i (V i) (by rw [HNN.out]; exact hlt) HB.out h3
      have hvi : V i = .int .i64 (xs.getD i 0) := h3; rw [hvi] at ha hcall; clear hvi
      clear h3
      cases hq : p i with
      | true =>
        rw [hq] at hcall
        have HQ := Lib.hid hq
        clear hq
        go_wp2_with (go_at_fn g; refine hcall.mono ?_; rintro e w' ⟨rfl, hb'⟩)
        go_ret
        exact ⟨i, rfl, ⟨fun _ => ⟨i, hlt, HQ.out⟩, fun _ => by omega⟩, HB.out.trans hb'⟩
      | false =>
        rw [hq] at hcall
        have HQ := Lib.hid hq
        clear hq
        go_wp2_with (go_at_fn g; refine hcall.mono ?_; rintro e w' ⟨rfl, hb'⟩)
        go_roundg (n - i)
        case measure => omega
        case rel => exact ⟨i + 1, by omega, by omega, by go_num, fun r hr => by
          by_cases e : r = i
          · subst e; exact HQ.out
          · exact HS.out r (by omega), HB.out.trans hb'⟩
    · obtain rfl : i = n := by omega
      go_wp2_with fail
      go_ret
      exact ⟨-1, rfl, ⟨fun h => by omega, fun ⟨r, h1, h2⟩ => by rw [HS.out r h1] at h2; cases h2⟩, HB.out⟩

set_option maxHeartbeats 400000 in
theorem anr_ints {w : World} {l : List Nat} {x : Value} {xs : List Int} {g : Nat} {lb : Array Value} {p : Nat → Bool} (h : IsL IsN 0 w l x xs) (hn : xs.length ≤ 1000000)
    (eg : ∀ args w, (callFunc g args).run Try.prog w = .ok (.enter g args) w) (hp : PredR IsN 0 g lb l xs p w) :
    Calls Try.prog 60 #[x, .func (.func g) #[] lb] w (AnPost xs.length p w) := by
  have h' := h
  obtain ⟨A, c, V, rfl, _⟩ := h'
  go_enter Try.func60, Try.ntmps60
  go_wp2_with fail
  refine (ixr_ints h hn eg hp).mono ?_
  rintro e w1 ⟨r, rfl, hr, hb⟩
  have HR := Lib.hid hr
  clear hr
  go_wp2_with fail
  go_ret
  exact ⟨_, rfl, by rw [← HR.out]; exact decide_eq_true_iff, hb⟩

end Go.Proofs.Ytdhadnnakcdfiaa
