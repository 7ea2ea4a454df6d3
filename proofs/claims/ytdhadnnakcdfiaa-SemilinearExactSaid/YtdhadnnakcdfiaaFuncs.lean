/- slices.IndexFunc and ContainsFunc at ints and at rows of ints, for whatever predicate. -/
import Derived.Test.YtdhadnnakcdfiaaChecked
import Derived.Test.YtdhadnnakcdfiaaTypes
import Derived.WalkSpells
import Derived.Shelf.Abstract
import Derived.Deep.QuietTactic
import Derived.BigQuiet
namespace Go.Proofs.Ytdhadnnakcdfiaa
set_option linter.unusedVariables false
open Go.RowKit

theorem ret_bl {a b : Bool} (h : a = b) : Ending.returned (.bool b) = .returned (.bool a) := by rw [h]

/-- Function value g, captures lb, answers as p does on the values v i, in every world that holds what w holds. -/
def Pred (g : Nat) (lb : Array Value) (n : Nat) (v : Nat → Value) (p : Nat → Bool) (w : World) : Prop :=
  ∀ (W : World) (i : Nat), i < n → Below w.heap.size w W → Calls Try.prog g (#[v i] ++ lb) W fun e w' => e = .returned (.bool (p i)) ∧ Below w.heap.size w w'

def IdxPost (n : Nat) (p : Nat → Bool) (w : World) (e : Ending) (w' : World) : Prop := ∃ r : Int, e = .returned (.int .i64 r) ∧ (0 ≤ r ↔ ∃ i, i < n ∧ p i = true) ∧ Below w.heap.size w w'
def AnyPost (n : Nat) (p : Nat → Bool) (w : World) (e : Ending) (w' : World) : Prop := ∃ r : Bool, e = .returned (.bool r) ∧ (r = true ↔ ∃ i, i < n ∧ p i = true) ∧ Below w.heap.size w w'

theorem Rd.belowW {w w' : World} {B n : Nat} {A : Option Addr} {f : Nat → Value} (h : Rd w B A n f) (hB : B ≤ w.heap.size) (hb : Below w.heap.size w w') : Rd w' B A n f := h.below (hb.mono hB)

set_option maxHeartbeats 400000 in
theorem index_ints (w : World) (B n c g : Nat) (lb : Array Value) (A : Option Addr) (f : Nat → Int) (p : Nat → Bool) (hB : B ≤ w.heap.size) (hf : Rd w B A n (fun i => .int .i64 (f i))) (hn : n ≤ 1000000000)
    (eg : ∀ args w, (callFunc g args).run Try.prog w = .ok (.enter g args) w) (hp : Pred g lb n (fun i => .int .i64 (f i)) p w) :
    Calls Try.prog 72 #[.slice A n c, .func (.func g) #[] lb] w (IdxPost n p w) := by
  have HF := Lib.hid hf
  have HP := Lib.hid hp
  clear hf hp
  go_enter Try.func72, Try.ntmps72
  go_wp2_with fail
  go_loopg [5, 8] (n + 1) (fun gh _ iv wr => ∃ i : Nat, n + 1 ≤ i + gh ∧ i ≤ n ∧ iv = .int .i64 (i : Int) ∧ (∀ r, r < i → p r = false) ∧ Below w.heap.size w wr)
  case atStart => exact ⟨0, by omega, by omega, rfl, fun r hr => by omega, Below.refl _ _⟩
  case round =>
    obtain ⟨i, hgh, hi, rfl, hs, hb⟩ := hrel
    have HS := Lib.hid hs
    have HB := Lib.hid hb
    clear hs hb
    by_cases hlt : i < n
    · obtain ⟨a, rfl, _, ha⟩ := (HF.out.belowW hB HB.out).at_ hlt
      have hcall := HP.out wr i hlt HB.out
      cases hq : p i with
      | true =>
        rw [hq] at hcall
        have HQ := Lib.hid hq
        clear hq
        go_wp2_with (go_at_fn g; refine hcall.mono ?_; rintro e w' ⟨rfl, hb'⟩)
        go_ret
        exact ⟨i, rfl, ⟨fun _ => ⟨i, hlt, HQ.out⟩, fun _ => by omega⟩, hb'⟩
      | false =>
        rw [hq] at hcall
        have HQ := Lib.hid hq
        clear hq
        go_wp2_with (go_at_fn g; refine hcall.mono ?_; rintro e w' ⟨rfl, hb'⟩)
        go_roundg (n - i)
        case measure => omega
        case rel => exact ⟨i + 1, by omega, by omega, by go_num, fun r hr => by
          by_cases e : r = i
          · subst e; exact HQ.out
          · exact HS.out r (by omega), hb'⟩
    · obtain rfl : i = n := by omega
      go_wp2_with fail
      go_ret
      exact ⟨-1, rfl, ⟨fun h => by omega, fun ⟨r, h1, h2⟩ => by rw [HS.out r h1] at h2; cases h2⟩, HB.out⟩

set_option maxHeartbeats 400000 in
theorem contains_ints (w : World) (B n c g : Nat) (lb : Array Value) (A : Option Addr) (f : Nat → Int) (p : Nat → Bool) (hB : B ≤ w.heap.size) (hf : Rd w B A n (fun i => .int .i64 (f i))) (hn : n ≤ 1000000000)
    (eg : ∀ args w, (callFunc g args).run Try.prog w = .ok (.enter g args) w) (hp : Pred g lb n (fun i => .int .i64 (f i)) p w) :
    Calls Try.prog 60 #[.slice A n c, .func (.func g) #[] lb] w (AnyPost n p w) := by
  go_enter Try.func60, Try.ntmps60
  go_wp2_with fail
  refine (index_ints w B n c g lb A f p hB hf hn eg hp).mono ?_
  rintro e w1 ⟨r, rfl, hr, hb⟩
  have HR := Lib.hid hr
  clear hr
  go_wp2_with fail
  go_ret
  exact ⟨_, rfl, by rw [← HR.out]; exact decide_eq_true_iff, hb⟩

set_option maxHeartbeats 400000 in
theorem index_rows (w : World) (B n c g : Nat) (lb : Array Value) (A : Option Addr) (R : Nat → Option Addr) (L C : Nat → Nat) (p : Nat → Bool) (hB : B ≤ w.heap.size) (hf : Rd w B A n (fun i => .slice (R i) (L i) (C i))) (hn : n ≤ 1000000000)
    (eg : ∀ args w, (callFunc g args).run Try.prog w = .ok (.enter g args) w) (hp : Pred g lb n (fun i => .slice (R i) (L i) (C i)) p w) :
    Calls Try.prog 64 #[.slice A n c, .func (.func g) #[] lb] w (IdxPost n p w) := by
  have HF := Lib.hid hf
  have HP := Lib.hid hp
  clear hf hp
  go_enter Try.func64, Try.ntmps64
  go_wp2_with fail
  go_loopg [5, 8] (n + 1) (fun gh _ iv wr => ∃ i : Nat, n + 1 ≤ i + gh ∧ i ≤ n ∧ iv = .int .i64 (i : Int) ∧ (∀ r, r < i → p r = false) ∧ Below w.heap.size w wr)
  case atStart => exact ⟨0, by omega, by omega, rfl, fun r hr => by omega, Below.refl _ _⟩
  case round =>
    obtain ⟨i, hgh, hi, rfl, hs, hb⟩ := hrel
    have HS := Lib.hid hs
    have HB := Lib.hid hb
    clear hs hb
    by_cases hlt : i < n
    · obtain ⟨a, rfl, _, ha⟩ := (HF.out.belowW hB HB.out).at_ hlt
      have hcall := HP.out wr i hlt HB.out
      cases hq : p i with
      | true =>
        rw [hq] at hcall
        have HQ := Lib.hid hq
        clear hq
        go_wp2_with (go_at_fn g; refine hcall.mono ?_; rintro e w' ⟨rfl, hb'⟩)
        go_ret
        exact ⟨i, rfl, ⟨fun _ => ⟨i, hlt, HQ.out⟩, fun _ => by omega⟩, hb'⟩
      | false =>
        rw [hq] at hcall
        have HQ := Lib.hid hq
        clear hq
        go_wp2_with (go_at_fn g; refine hcall.mono ?_; rintro e w' ⟨rfl, hb'⟩)
        go_roundg (n - i)
        case measure => omega
        case rel => exact ⟨i + 1, by omega, by omega, by go_num, fun r hr => by
          by_cases e : r = i
          · subst e; exact HQ.out
          · exact HS.out r (by omega), hb'⟩
    · obtain rfl : i = n := by omega
      go_wp2_with fail
      go_ret
      exact ⟨-1, rfl, ⟨fun h => by omega, fun ⟨r, h1, h2⟩ => by rw [HS.out r h1] at h2; cases h2⟩, HB.out⟩

set_option maxHeartbeats 400000 in
theorem contains_rows (w : World) (B n c g : Nat) (lb : Array Value) (A : Option Addr) (R : Nat → Option Addr) (L C : Nat → Nat) (p : Nat → Bool) (hB : B ≤ w.heap.size) (hf : Rd w B A n (fun i => .slice (R i) (L i) (C i))) (hn : n ≤ 1000000000)
    (eg : ∀ args w, (callFunc g args).run Try.prog w = .ok (.enter g args) w) (hp : Pred g lb n (fun i => .slice (R i) (L i) (C i)) p w) :
    Calls Try.prog 45 #[.slice A n c, .func (.func g) #[] lb] w (AnyPost n p w) := by
  go_enter Try.func45, Try.ntmps45
  go_wp2_with fail
  refine (index_rows w B n c g lb A R L C p hB hf hn eg hp).mono ?_
  rintro e w1 ⟨r, rfl, hr, hb⟩
  have HR := Lib.hid hr
  clear hr
  go_wp2_with fail
  go_ret
  exact ⟨_, rfl, by rw [← HR.out]; exact decide_eq_true_iff, hb⟩

/-- small: all elements lie between 0 and a limit. -/
def SmallB (n : Nat) (f : Nat → Int) (m : Int) : Prop := ∀ i, i < n → 0 ≤ f i ∧ f i ≤ m

set_option maxHeartbeats 400000 in
theorem small_lit (B m : Nat) (lim : Int) (n : Nat) (f : Nat → Int) (w : World) (hm : m < w.heap.size) (hc : w.cell? ⟨m, 0, none⟩ = some (.int .i64 lim)) :
    Pred 61 #[.pointer (some ⟨m, 0, none⟩)] n (fun i => .int .i64 (f i)) (fun i => decide (f i < 0 ∨ lim < f i)) w := by
  intro W i _ hb
  have hc' := (hb.cell (p := ⟨m, 0, none⟩) hm).trans hc
  clear hc
  show Calls Try.prog 61 #[.int .i64 (f i), .pointer (some ⟨m, 0, none⟩)] W fun e w' => e = .returned (.bool (decide (f i < 0 ∨ lim < f i))) ∧ Below w.heap.size w w'
  generalize f i = x
  by_cases h1 : x < 0
  · have e : Hid (decide (x < 0 ∨ lim < x) = true) := decide_eq_true (.inl h1)
    go_enter Try.func61, Try.ntmps61
    go_wp2_with fail
    go_ret
    exact ⟨by first | exact ret_bl e.out | rfl | exact ret_bl (by simp; omega), hb⟩
  · by_cases h2 : lim < x
    · have e : Hid (decide (x < 0 ∨ lim < x) = true) := decide_eq_true (.inr h2)
      go_enter Try.func61, Try.ntmps61
      go_wp2_with fail
      go_ret
      exact ⟨by first | exact ret_bl e.out | rfl | exact ret_bl (by simp; omega), hb⟩
    · have e : Hid (decide (x < 0 ∨ lim < x) = false) := decide_eq_false (by omega)
      go_enter Try.func61, Try.ntmps61
      go_wp2_with fail
      go_ret
      exact ⟨by first | exact ret_bl e.out | rfl | exact ret_bl (by simp; omega), hb⟩

def SmPost (P : Prop) (w : World) (e : Ending) (w' : World) : Prop := ∃ r : Bool, e = .returned (.bool r) ∧ (r = true ↔ P) ∧ Below w.heap.size w w'

set_option maxHeartbeats 400000 in
theorem small_has (w : World) (B n c : Nat) (A : Option Addr) (f : Nat → Int) (lim : Int) (hB : B ≤ w.heap.size) (hf : Rd w B A n (fun i => .int .i64 (f i))) (hn : n ≤ 1000000000) :
    Calls Try.prog 36 #[.slice A n c, .int .i64 lim] w (SmPost (SmallB n f lim) w) := by
  have HF := Lib.hid hf
  clear hf
  have eg := enters_of Try.func61 (by kernel_rfl) rfl
  have hC := fun W hm hc hB hf => contains_ints W B n c 61 #[.pointer (some ⟨w.heap.size, 0, none⟩)] A f _ hB hf hn eg (small_lit B w.heap.size lim n f W hm hc)
  go_enter Try.func36, Try.ntmps36
  go_wp2_with (go_at_call 60; refine (hC _ (by simp) (by simp) (by simp; omega) (HF.out.alloc_ _)).mono ?_; rintro e w1 ⟨r, rfl, hr, hb⟩)
  go_ret
  refine ⟨_, rfl, ?_, ((Below.refl _ _).alloc (Nat.le_refl _) _).trans (hb.mono (by simp))⟩
  rw [Bool.not_eq_true', ← Bool.not_eq_true, hr]
  constructor
  · intro h i hi
    refine Decidable.byContradiction fun h2 => h ⟨i, hi, decide_eq_true (by omega)⟩
  · rintro h ⟨i, hi, h2⟩
    have := h i hi
    have := of_decide_eq_true h2
    omega

set_option maxHeartbeats 400000 in
theorem zero_lit (n : Nat) (f : Nat → Int) (w : World) : Pred 73 #[] n (fun i => .int .i64 (f i)) (fun i => f i != 0) w := by
  intro W i _ hb
  show Calls Try.prog 73 #[.int .i64 (f i)] W fun e w' => e = .returned (.bool (f i != 0)) ∧ Below w.heap.size w w'
  generalize f i = x
  cases e : x != 0 with
  | true =>
    go_enter Try.func73, Try.ntmps73
    go_wp2_with fail
    go_ret
    exact ⟨rfl, hb⟩
  | false =>
    go_enter Try.func73, Try.ntmps73
    go_wp2_with fail
    go_ret
    exact ⟨rfl, hb⟩

def ZeroB (n : Nat) (f : Nat → Int) : Prop := ∀ i, i < n → f i = 0

set_option maxHeartbeats 400000 in
theorem zero_has (w : World) (B n c : Nat) (A : Option Addr) (f : Nat → Int) (hB : B ≤ w.heap.size) (hf : Rd w B A n (fun i => .int .i64 (f i))) (hn : n ≤ 1000000000) :
    Calls Try.prog 62 #[.slice A n c] w (SmPost (ZeroB n f) w) := by
  have HF := Lib.hid hf
  clear hf
  have eg := enters_of Try.func73 (by kernel_rfl) rfl
  go_enter Try.func62, Try.ntmps62
  go_wp2_with fail
  refine (contains_ints w B n c 73 #[] A f _ hB HF.out hn eg (zero_lit n f w)).mono ?_
  rintro e w1 ⟨r, rfl, hr, hb⟩
  have HR := Lib.hid hr
  clear hr
  go_wp2_with fail
  go_ret
  refine ⟨_, rfl, ?_, hb⟩
  rw [Bool.not_eq_true', ← Bool.not_eq_true, HR.out]
  constructor
  · intro h i hi
    refine Decidable.byContradiction fun h2 => h ⟨i, hi, by simpa using h2⟩
  · rintro h ⟨i, hi, h2⟩
    have := h i hi
    simp [this] at h2
end Go.Proofs.Ytdhadnnakcdfiaa
