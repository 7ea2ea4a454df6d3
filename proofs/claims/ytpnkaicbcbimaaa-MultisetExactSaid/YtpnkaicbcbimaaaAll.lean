/- Match and Most of both texts, at every table, in one form. -/
import Derived.Test.YtpnkaicbcbimaaaRMatch
import Derived.Test.YtpnkaicbcbimaaaLMatches
namespace Go.Proofs.Ytpnkaicbcbimaaa
set_option linter.unusedVariables false
open Go.RowKit Kuhn

/-- What a least matching is: there is one of all rows, and it is the picked one; or there is none. -/
def Desc (n : Nat) (L : Nat → Nat) (E : Nat → Nat → Bool) (nx : Nat) (ok : Bool) (f : Nat → Int) : Prop :=
  (ok = true ∧ nx = n ∧ vld n L = true ∧ ∃ g : Nat → Nat, (∀ i, i < n → Pick E (colsOf n L) n g i) ∧ ∀ i, i < n → f i = g i) ∨ (ok = false ∧ nx = 0 ∧ (vld n L = true → ¬ Sat E (colsOf n L) (fun _ => false) 0 n))

theorem Desc.unique {n nx ny : Nat} {L : Nat → Nat} {E : Nat → Nat → Bool} {ok ok' : Bool} {f f' : Nat → Int} (h : Desc n L E nx ok f) (h' : Desc n L E ny ok' f') : ok = ok' ∧ nx = ny ∧ ∀ i, i < nx → f i = f' i := by
  rcases h with ⟨rfl, rfl, hv, g, hg, hf⟩ | ⟨rfl, rfl, hn⟩ <;> rcases h' with ⟨rfl, rfl, hv', g', hg', hf'⟩ | ⟨rfl, rfl, hn'⟩
  · exact ⟨rfl, rfl, fun i hi => by rw [hf i hi, hf' i hi, Pick.unique hg hg' i hi]⟩
  · exact absurd (sat_of (Pick.proves hg)) (hn' hv)
  · exact absurd (sat_of (Pick.proves hg')) (hn hv')
  · exact ⟨rfl, rfl, fun i hi => by omega⟩

def MatchAll (n : Nat) (L : Nat → Nat) (E : Nat → Nat → Bool) (w : World) (e : Ending) (w' : World) : Prop :=
  ∃ (X : Option Addr) (nx cx : Nat) (ok : Bool) (f : Nat → Int), e = .returned (.tuple #[.slice X nx cx, .bool ok]) ∧ nx ≤ n ∧ Rd w' w'.heap.size X nx (fun i => .int .i64 (f i)) ∧ Desc n L E nx ok f ∧ Below w.heap.size w w'

theorem rd_nil {w : World} {B : Nat} {f : Nat → Value} : Rd w B none 0 f := fun h => absurd h (by omega)

theorem match_all (w : World) (B n tc : Nat) (L : Nat → Nat) (A : Option Addr) (E : Nat → Nat → Bool) (hT : TabG w B A n L E) (hB : B ≤ w.heap.size) (hn : n ≤ 1000000000) (hL : ∀ i, i < n → L i ≤ 1000000000) :
    Calls Try.prog 13 #[.slice A n tc] w (MatchAll n L E w) := by
  cases hv : vld n L with
  | true =>
    refine (match_yes w B n tc L A E hT hB hv).mono ?_
    rintro e w' (⟨b, g, rfl, hg, hb1, hb2, hO, hB⟩ | ⟨rfl, hs, hB⟩)
    · exact ⟨_, n, n, true, fun i => (g i : Int), rfl, Nat.le_refl _, (rd_of_Own hO).more hb2, .inl ⟨rfl, rfl, hv, g, hg, fun _ _ => rfl⟩, hB⟩
    · exact ⟨none, 0, 0, false, fun _ => 0, rfl, Nat.zero_le _, rd_nil, .inr ⟨rfl, rfl, fun _ => hs⟩, hB⟩
  | false =>
    refine (match_no w B n tc L A E hT hn hL hv).mono ?_
    rintro e w' ⟨rfl, rfl⟩
    exact ⟨none, 0, 0, false, fun _ => 0, rfl, Nat.zero_le _, rd_nil, .inr ⟨rfl, rfl, fun h => by rw [hv] at h; cases h⟩, Below.refl _ _⟩

theorem rmatch_all (w : World) (B n tc : Nat) (L : Nat → Nat) (A : Option Addr) (E : Nat → Nat → Bool) (hT : TabG w B A n L E) (hB : B ≤ w.heap.size) (hn : n ≤ 1000000000) (hL : ∀ i, i < n → L i ≤ 1000000000) :
    Calls Try.prog 14 #[.slice A n tc] w (MatchAll n L E w) := by
  cases hv : vld n L with
  | true =>
    refine (rmatch_yes w B n tc L A E hT hB hv).mono ?_
    rintro e w' (⟨X, c, g, rfl, hg, hO, hB⟩ | ⟨rfl, hs, hB⟩)
    · exact ⟨X, n, c, true, fun i => (g i : Int), rfl, Nat.le_refl _, (rd_of_own hO undef).congr fun i hi => getD_map_range n _ _ hi, .inl ⟨rfl, rfl, hv, g, hg, fun _ _ => rfl⟩, hB⟩
    · exact ⟨none, 0, 0, false, fun _ => 0, rfl, Nat.zero_le _, rd_nil, .inr ⟨rfl, rfl, fun _ => hs⟩, hB⟩
  | false =>
    refine (rmatch_no w B n tc L A E hT hn hL hv).mono ?_
    rintro e w' ⟨rfl, hB⟩
    exact ⟨none, 0, 0, false, fun _ => 0, rfl, Nat.zero_le _, rd_nil, .inr ⟨rfl, rfl, fun h => by rw [hv] at h; cases h⟩, hB⟩

def MostNum (n : Nat) (L : Nat → Nat) (E : Nat → Nat → Bool) (k : Nat) : Prop := (vld n L = true → IsMax E (colsOf n L) (fun _ => false) 0 n k) ∧ (vld n L = false → k = 0)
theorem MostNum.unique {n k k' : Nat} {L : Nat → Nat} {E : Nat → Nat → Bool} (h : MostNum n L E k) (h' : MostNum n L E k') : k = k' := by
  cases hv : vld n L with
  | true => exact (h.1 hv).unique (h'.1 hv)
  | false => rw [h.2 hv, h'.2 hv]
def MostAll (n : Nat) (L : Nat → Nat) (E : Nat → Nat → Bool) (w : World) (e : Ending) (w' : World) : Prop :=
  ∃ k : Nat, e = .returned (.tuple #[.int .i64 (k : Int), .bool (vld n L)]) ∧ MostNum n L E k ∧ Below w.heap.size w w'

theorem most_all (w : World) (B n tc : Nat) (L : Nat → Nat) (A : Option Addr) (E : Nat → Nat → Bool) (hT : TabG w B A n L E) (hB : B ≤ w.heap.size) (hn : n ≤ 1000000000) (hL : ∀ i, i < n → L i ≤ 1000000000) :
    Calls Try.prog 15 #[.slice A n tc] w (MostAll n L E w) := by
  cases hv : vld n L with
  | true =>
    refine (mostall_yes w B n tc L A E hT hB hv).mono ?_
    rintro e w' ⟨k, rfl, hk, hB⟩
    exact ⟨k, by rw [hv], ⟨fun _ => hk, fun h => by rw [hv] at h; cases h⟩, hB⟩
  | false =>
    refine (mostall_no w B n tc L A E hT hn hL hv).mono ?_
    rintro e w' ⟨rfl, rfl⟩
    exact ⟨0, by rw [hv]; rfl, ⟨(fun h => by rw [hv] at h; cases h), fun _ => rfl⟩, Below.refl _ _⟩
theorem rmost_all (w : World) (B n tc : Nat) (L : Nat → Nat) (A : Option Addr) (E : Nat → Nat → Bool) (hT : TabG w B A n L E) (hB : B ≤ w.heap.size) (hn : n ≤ 1000000000) (hL : ∀ i, i < n → L i ≤ 1000000000) :
    Calls Try.prog 16 #[.slice A n tc] w (MostAll n L E w) := by
  cases hv : vld n L with
  | true =>
    refine (rmostall_yes w B n tc L A E hT hB hv).mono ?_
    rintro e w' ⟨k, rfl, hk, hB⟩
    exact ⟨k, by rw [hv], ⟨fun _ => hk, fun h => by rw [hv] at h; cases h⟩, hB⟩
  | false =>
    refine (rmostall_no w B n tc L A E hT hn hL hv).mono ?_
    rintro e w' ⟨rfl, hB⟩
    exact ⟨0, by rw [hv]; rfl, ⟨(fun h => by rw [hv] at h; cases h), fun _ => rfl⟩, hB⟩

theorem same_eq (w : World) (B B' n n' c c' : Nat) (A A' : Option Addr) (f g : Nat → Int) (hf : Rd w B A n (fun i => .int .i64 (f i))) (hg : Rd w B' A' n' (fun i => .int .i64 (g i))) (hn : n ≤ 1000000000) (hn' : n' ≤ 1000000000) (he : n = n' ∧ ∀ i, i < n → f i = g i) :
    Calls Try.prog 17 #[.slice A n c, .slice A' n' c'] w fun e w' => e = .returned (.bool true) ∧ Below w.heap.size w w' := by
  refine (same_any w B B' n n' c c' A A' f g hf hg hn hn').mono ?_
  rintro e w' ⟨b, rfl, hb, q, rfl⟩
  obtain rfl : b = true := hb.2 he
  exact ⟨rfl, below_drewN (Below.refl _ w) q⟩
theorem rvalid_b (w : World) (B n c : Nat) (L : Nat → Nat) (A : Option Addr) (E : Nat → Nat → Bool) (hT : TabG w B A n L E) (hn : n ≤ 1000000000) (hL : ∀ i, i < n → L i ≤ 1000000000) :
    Calls Try.prog 19 #[.slice A n c] w fun e w' => e = .returned (.bool (vld n L)) ∧ Below w.heap.size w w' := by
  refine (rvalid_any w B n c L A E hT hn hL).mono ?_
  rintro e w' ⟨rfl, q, rfl⟩
  exact ⟨rfl, below_drewN (Below.refl _ w) q⟩
end Go.Proofs.Ytpnkaicbcbimaaa
