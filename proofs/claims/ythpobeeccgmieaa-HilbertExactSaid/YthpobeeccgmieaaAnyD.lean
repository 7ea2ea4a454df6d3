/- slices.IndexFunc (the first place) and ContainsFunc at rows of numbers, in the words of Rep. -/
import Derived.Test.YthpobeeccgmieaaAny
import Derived.Test.YthpobeeccgmieaaTypes
import Derived.Test.YthpobeeccgmieaaNow
import Derived.Lib.SliceRun
import Derived.IntWalk
namespace Go.Proofs.Ythpobeeccgmieaa
set_option linter.unusedVariables false
open Go.RowKit

/-- A function value answers of element i as p does, whatever is written to block b. -/
def PredB {α : Type} (R : Rp α) (d : α) (g : Nat) (lb : Array Value) (bl l : List Nat) (xs : List α) (p : Nat → Bool) (w : World) : Prop :=
  ∀ (W : World) (i : Nat) (u : Value), i < xs.length → Keeps bl w W → R W l u (xs.getD i d) → Calls Try.prog g (#[u] ++ lb) W fun e w' => e = .returned (.bool (p i)) ∧ Keeps [] W w'
def FstPost (n : Nat) (p : Nat → Bool) (w : World) (e : Ending) (w' : World) : Prop :=
  Keeps [] w w' ∧ ((e = .returned (.int .i64 (-1)) ∧ ∀ i, i < n → p i = false) ∨ ∃ i : Nat, e = .returned (.int .i64 (i : Int)) ∧ i < n ∧ p i = true ∧ ∀ j, j < i → p j = false)

set_option maxHeartbeats 400000 in
theorem ixs_raw {w : World} {l : List Nat} {A : Option Addr} {n c : Nat} {V : Nat → Value} {g : Nat} {lb : Array Value} {p : Nat → Bool} (hc : RdL w l A n V) (hn : n ≤ 1000000000) (hsl : ∀ i, i < n → ∃ B m c, V i = .slice B m c)
    (eg : ∀ args w, (callFunc g args).run Try.prog w = .ok (.enter g args) w) (hp : ∀ (W : World) (i : Nat), i < n → Keeps [] w W → Calls Try.prog g (#[V i] ++ lb) W fun e w' => e = .returned (.bool (p i)) ∧ Keeps [] W w') :
    Calls Try.prog 74 #[.slice A n c, .func (.func g) #[] lb] w (FstPost n p w) := by
  have HP := Lib.hid hp
  have HC := Lib.hid hc
  have HSL := Lib.hid hsl
  clear hc hsl
  clear hp
  go_enter Try.func74, Try.ntmps74
  go_wp2_with fail
  go_loopg [5, 8] (n + 1) (fun gh _ iv wr => ∃ i : Nat, n + 1 ≤ i + gh ∧ i ≤ n ∧ iv = .int .i64 (i : Int) ∧ (∀ r, r < i → p r = false) ∧ Keeps [] w wr)
  case atStart => exact ⟨0, by omega, by omega, rfl, fun r hr => by omega, Keeps.refl _ _⟩
  case round =>
    obtain ⟨i, hgh, hi, rfl, hs, hb⟩ := hrel
    have HS := Lib.hid hs
    have HB := Lib.hid hb
    clear hs hb
    by_cases hlt : i < n
    · obtain ⟨a, rfl, ha⟩ := (HC.out.keeps (HB.out.nil l)).at_ hlt
      have hcall := HP.out wr i hlt HB.out
      obtain ⟨Bi, mi, ci, hvi⟩ := HSL.out i hlt
      rw [hvi] at ha hcall
      clear hvi
      cases hq : p i with
      | true =>
        rw [hq] at hcall
        have HQ := Lib.hid hq
        clear hq
        go_wp2_with (go_at_fn g; refine hcall.mono ?_; rintro e w' ⟨rfl, hb'⟩)
        go_ret
        exact ⟨HB.out.trans hb', .inr ⟨i, rfl, hlt, HQ.out, HS.out⟩⟩
      | false =>
        rw [hq] at hcall
        have HQ := Lib.hid hq
        clear hq
        go_wp2_with (go_at_fn g; refine hcall.mono ?_; rintro e w' ⟨rfl, hb'⟩)
        go_roundg (n - i)
        case measure => omega
        case rel => exact ⟨i + 1, by omega, by omega, by go_num, fun r hr => by
          by_cases e : r = i
          · subst e; exact HQ.out
          · exact HS.out r (by omega), HB.out.trans hb'⟩
    · obtain rfl : i = n := by omega
      go_wp2_with fail
      go_ret
      exact ⟨HB.out, .inl ⟨rfl, HS.out⟩⟩
theorem ixs_rows {w : World} {l : List Nat} {x : Value} {xs : List (List Int)} {g : Nat} {lb : Array Value} {p : Nat → Bool} (h : IsL IsI [] w l x xs) (hn : xs.length ≤ 1000000000)
    (eg : ∀ args w, (callFunc g args).run Try.prog w = .ok (.enter g args) w) (hp : PredB IsI [] g lb [] l xs p w) :
    Calls Try.prog 74 #[x, .func (.func g) #[] lb] w (FstPost xs.length p w) := by
  obtain ⟨A, c, V, rfl, _, _, hc, hv⟩ := h
  refine ixs_raw hc hn (fun i hi => ?_) eg (fun W i hi k => hp W i (V i) hi k (Rok.keeps (hv i hi) (k.nil l)))
  obtain ⟨Ai, ci, hvi, _⟩ := (hv i hi).open
  exact ⟨_, _, _, hvi⟩

def anyB (n : Nat) (p : Nat → Bool) : Bool := (List.range n).any p
theorem anyB_true {n : Nat} {p : Nat → Bool} : anyB n p = true ↔ ∃ i, i < n ∧ p i = true := by
  unfold anyB
  rw [List.any_eq_true]
  exact ⟨fun ⟨i, h1, h2⟩ => ⟨i, List.mem_range.1 h1, h2⟩, fun ⟨i, h1, h2⟩ => ⟨i, List.mem_range.2 h1, h2⟩⟩
set_option maxHeartbeats 400000 in
theorem ans_rows {w : World} {l : List Nat} {x : Value} {xs : List (List Int)} {g : Nat} {lb : Array Value} {p : Nat → Bool} (h : IsL IsI [] w l x xs) (hn : xs.length ≤ 1000000000)
    (eg : ∀ args w, (callFunc g args).run Try.prog w = .ok (.enter g args) w) (hp : PredB IsI [] g lb [] l xs p w) :
    Calls Try.prog 55 #[x, .func (.func g) #[] lb] w (RetB (anyB xs.length p) w) := by
  have h' := h
  obtain ⟨A, c, V, rfl, _⟩ := h'
  have hcall := ixs_rows h hn eg hp
  unfold RetB
  cases hq : anyB xs.length p with
  | true =>
    have hx := anyB_true.1 hq
    have HX := Lib.hid hx
    have HQ := Lib.hid hq
    have HCALL := Lib.hid hcall
    clear hx hq hcall
    go_enter Try.func55, Try.ntmps55
    go_wp2_with fail
    refine HCALL.out.mono ?_
    rintro e w1 ⟨hk, ⟨rfl, hno⟩ | ⟨i, rfl, hi, hpi, hfi⟩⟩
    · obtain ⟨i, h1, h2⟩ := HX.out
      rw [hno i h1] at h2; cases h2
    · have HK := Lib.hid hk
      have HPI := Lib.hid hpi
      have HFI := Lib.hid hfi
      clear hk hpi hfi
      go_wp2_with fail
      go_ret
      exact ⟨rfl, HK.out⟩
  | false =>
    have hx : ∀ i, i < xs.length → p i = false := fun i hi => by
      cases hpi : p i with
      | false => rfl
      | true => rw [anyB_true.2 ⟨i, hi, hpi⟩] at hq; cases hq
    have HX := Lib.hid hx
    have HQ := Lib.hid hq
    have HCALL := Lib.hid hcall
    clear hx hq hcall
    go_enter Try.func55, Try.ntmps55
    go_wp2_with fail
    refine HCALL.out.mono ?_
    rintro e w1 ⟨hk, ⟨rfl, hno⟩ | ⟨i, rfl, hi, hpi, hfi⟩⟩
    · have HK := Lib.hid hk
      have HNO := Lib.hid hno
      clear hk hno
      go_wp2_with fail
      go_ret
      exact ⟨rfl, HK.out⟩
    · rw [HX.out i hi] at hpi; cases hpi

end Go.Proofs.Ythpobeeccgmieaa
