/- Matrices and their products with vectors, in plain Lean. -/
import Derived.Test.YthpobeeccgmieaaAscL
import Derived.Test.YthpobeeccgmieaaRedL
namespace Go.Proofs.Ythpobeeccgmieaa
set_option linter.unusedVariables false

def entB (x : Int) : Bool := decide (-16 ≤ x ∧ x ≤ 16)
theorem entB_true {x : Int} : entB x = true ↔ -16 ≤ x ∧ x ≤ 16 := by simp [entB]
def rowB (n : Nat) (r : List Int) : Bool := decide (r.length = n) && r.all entB
def matB (A : List (List Int)) : Bool :=
  decide (1 ≤ A.length ∧ A.length ≤ 12) && decide (1 ≤ (A.getD 0 []).length ∧ (A.getD 0 []).length ≤ 12 ∧ ((A.getD 0 []).length ≤ 6 ∨ A.length ≤ 6)) && A.all (rowB (A.getD 0 []).length)
structure Mat (A : List (List Int)) (r c : Nat) : Prop where
  rows : A.length = r
  r1 : 1 ≤ r ∧ r ≤ 12
  c1 : 1 ≤ c ∧ c ≤ 12
  few : c ≤ 6 ∨ r ≤ 6
  len : ∀ x ∈ A, x.length = c
  ent : ∀ x ∈ A, ∀ y ∈ x, -16 ≤ y ∧ y ≤ 16
theorem rowB_true {n : Nat} {r : List Int} : rowB n r = true ↔ r.length = n ∧ ∀ y ∈ r, -16 ≤ y ∧ y ≤ 16 := by
  unfold rowB
  rw [Bool.and_eq_true, decide_eq_true_eq, List.all_eq_true]
  exact ⟨fun ⟨a, b⟩ => ⟨a, fun y hy => entB_true.1 (b y hy)⟩, fun ⟨a, b⟩ => ⟨a, fun y hy => entB_true.2 (b y hy)⟩⟩
theorem matB_true {A : List (List Int)} : matB A = true ↔ Mat A A.length (A.getD 0 []).length := by
  unfold matB
  rw [Bool.and_eq_true, Bool.and_eq_true, decide_eq_true_eq, decide_eq_true_eq, List.all_eq_true]
  constructor
  · rintro ⟨⟨h1, h2, h3, h4⟩, h5⟩
    exact ⟨rfl, h1, ⟨h2, h3⟩, h4, fun x hx => (rowB_true.1 (h5 x hx)).1, fun x hx => (rowB_true.1 (h5 x hx)).2⟩
  · rintro ⟨_, h1, ⟨h2, h3⟩, h4, h5, h6⟩
    exact ⟨⟨h1, h2, h3, h4⟩, fun x hx => rowB_true.2 ⟨h5 x hx, h6 x hx⟩⟩
theorem Mat.b {A : List (List Int)} {r c : Nat} (h : Mat A r c) : matB A = true ∧ (A.getD 0 []).length = c := by
  have h0 : (A.getD 0 []).length = c := h.len _ (by
    have : 0 < A.length := by have := h.rows; have := h.r1; omega
    rw [List.getD_eq_getElem?_getD, List.getElem?_eq_getElem this]; exact List.getElem_mem this)
  refine ⟨matB_true.2 ?_, h0⟩
  rw [h0, h.rows]; exact h
/-- The system's matrix. -/
def shB (A : List (List Int)) : Bool := matB A && decide (A.length ≤ 6) && decide ((A.getD 0 []).length ≤ 6)

def dotP (r v : List Int) : Nat → Int
  | 0 => 0
  | k + 1 => dotP r v k + r.getD k 0 * v.getD k 0
def dotL (r v : List Int) : Int := dotP r v r.length
def appL (A : List (List Int)) (v : List Int) : List Int := A.map fun r => dotL r v
theorem mul_bound {x y : Int} (h1 : -16 ≤ x) (h2 : x ≤ 16) (h3 : -1048576 ≤ y) (h4 : y ≤ 1048576) : -16777216 ≤ x * y ∧ x * y ≤ 16777216 := by
  have a1 : 0 ≤ (x + 16) * (1048576 - y) := Int.mul_nonneg (by omega) (by omega)
  have a2 : 0 ≤ (16 - x) * (y + 1048576) := Int.mul_nonneg (by omega) (by omega)
  have a3 : 0 ≤ (x + 16) * (y + 1048576) := Int.mul_nonneg (by omega) (by omega)
  have a4 : 0 ≤ (16 - x) * (1048576 - y) := Int.mul_nonneg (by omega) (by omega)
  rw [Int.add_mul, Int.mul_sub, Int.mul_sub] at a1
  rw [Int.sub_mul, Int.mul_add, Int.mul_add] at a2
  rw [Int.add_mul, Int.mul_add, Int.mul_add] at a3
  rw [Int.sub_mul, Int.mul_sub, Int.mul_sub] at a4
  omega
theorem dotP_bound {r v : List Int} : ∀ {k : Nat}, (∀ i, i < k → -16 ≤ r.getD i 0 ∧ r.getD i 0 ≤ 16) → (∀ i, i < k → -1048576 ≤ v.getD i 0 ∧ v.getD i 0 ≤ 1048576) → -16777216 * (k : Int) ≤ dotP r v k ∧ dotP r v k ≤ 16777216 * (k : Int)
  | 0, _, _ => by simp [dotP]
  | k + 1, h1, h2 => by
    have ih := dotP_bound (k := k) (fun i hi => h1 i (by omega)) (fun i hi => h2 i (by omega))
    obtain ⟨a, b⟩ := h1 k (by omega)
    obtain ⟨c, d⟩ := h2 k (by omega)
    have := mul_bound a b c d
    simp only [dotP]
    omega
end Go.Proofs.Ythpobeeccgmieaa
