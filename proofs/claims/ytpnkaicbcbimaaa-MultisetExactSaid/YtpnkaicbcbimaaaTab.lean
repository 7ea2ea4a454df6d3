/- Tables of truths in memory. -/
import Derived.Test.YtpnkaicbcbimaaaBase
namespace Go.Proofs.Ytpnkaicbcbimaaa
open Go.RowKit

/-- A table of n rows, row i of L i truths. -/
def TabG (w : World) (B : Nat) (A : Option Addr) (n : Nat) (L : Nat → Nat) (E : Nat → Nat → Bool) : Prop :=
  ∃ (R : Nat → Option Addr) (C : Nat → Nat), Rd w B A n (fun i => .slice (R i) (L i) (C i)) ∧ ∀ i, i < n → Rd w B (R i) (L i) (fun j => .bool (E i j))

/-- A table of n rows and m columns. -/
def Tab (w : World) (B : Nat) (A : Option Addr) (n m : Nat) (E : Nat → Nat → Bool) : Prop := TabG w B A n (fun _ => m) E

theorem TabG.keeps {w w' : World} {l : List Nat} {B n : Nat} {L : Nat → Nat} {A : Option Addr} {E : Nat → Nat → Bool} (h : TabG w B A n L E) (k : Keeps l w w') (hl : ∀ x ∈ l, B ≤ x) : TabG w' B A n L E := by
  obtain ⟨R, C, h1, h2⟩ := h
  exact ⟨R, C, h1.keeps k hl, fun i hi => (h2 i hi).keeps k hl⟩
theorem Tab.keeps {w w' : World} {l : List Nat} {B n m : Nat} {A : Option Addr} {E : Nat → Nat → Bool} (h : Tab w B A n m E) (k : Keeps l w w') (hl : ∀ x ∈ l, B ≤ x) : Tab w' B A n m E := TabG.keeps h k hl
theorem TabG.below {w w' : World} {B n : Nat} {L : Nat → Nat} {A : Option Addr} {E : Nat → Nat → Bool} (h : TabG w B A n L E) (k : Below B w w') : TabG w' B A n L E := by
  obtain ⟨R, C, h1, h2⟩ := h
  exact ⟨R, C, h1.below k, fun i hi => (h2 i hi).below k⟩
theorem TabG.more {w : World} {B B' n : Nat} {L : Nat → Nat} {A : Option Addr} {E : Nat → Nat → Bool} (h : TabG w B A n L E) (k : B ≤ B') : TabG w B' A n L E := by
  obtain ⟨R, C, h1, h2⟩ := h
  exact ⟨R, C, h1.more k, fun i hi => (h2 i hi).more k⟩
theorem TabG.tab {w : World} {B n m : Nat} {L : Nat → Nat} {A : Option Addr} {E : Nat → Nat → Bool} (h : TabG w B A n L E) (hL : ∀ i, i < n → L i = m) : Tab w B A n m E := by
  obtain ⟨R, C, h1, h2⟩ := h
  refine ⟨R, C, fun hn => ?_, fun i hi => by rw [← hL i hi]; exact h2 i hi⟩
  obtain ⟨a, e, hb, hc⟩ := h1 hn
  exact ⟨a, e, hb, fun i hi => by rw [← hL i hi]; exact hc i hi⟩

/-- Whether a table is valid. -/
def vld (n : Nat) (L : Nat → Nat) : Bool := decide (n ≤ 12 ∧ ∀ i, i < n → L i ≤ 12 ∧ L i = L 0)
theorem vld_true {n : Nat} {L : Nat → Nat} (h1 : n ≤ 12) (h2 : ∀ i, i < n → L i ≤ 12 ∧ L i = L 0) : vld n L = true := decide_eq_true ⟨h1, h2⟩
theorem vld_false {n : Nat} {L : Nat → Nat} (h : ¬ (n ≤ 12 ∧ ∀ i, i < n → L i ≤ 12 ∧ L i = L 0)) : vld n L = false := decide_eq_false h
theorem of_vld {n : Nat} {L : Nat → Nat} (h : vld n L = true) : n ≤ 12 ∧ ∀ i, i < n → L i ≤ 12 ∧ L i = L 0 := of_decide_eq_true h

end Go.Proofs.Ytpnkaicbcbimaaa
