/- Vectors of natural numbers with a given sum, ascending (in plain Lean). -/
import Derived.Test.YthpobeeccgmieaaAscL
import Derived.Test.YthpobeeccgmieaaRedL
namespace Go.Proofs.Ythpobeeccgmieaa
set_option linter.unusedVariables false

/-- All vectors with k + 1 elements and the sum s. -/
def vecs : Nat → Nat → List (List Int)
  | 0, s => [[(s : Int)]]
  | k + 1, s => (List.range (s + 1)).flatMap fun x => (vecs k (s - x)).map ((x : Int) :: ·)
def isum (v : List Int) : Int := v.foldr (· + ·) 0
theorem isum_cons (x : Int) (v : List Int) : isum (x :: v) = x + isum v := rfl
theorem isum_nil : isum [] = 0 := rfl
theorem mem_vecs : ∀ {k s : Nat} {v : List Int}, v ∈ vecs k s ↔ v.length = k + 1 ∧ (∀ x ∈ v, 0 ≤ x) ∧ isum v = (s : Int)
  | 0, s, v => by
    simp only [vecs, List.mem_singleton]
    constructor
    · rintro rfl; exact ⟨rfl, by simp, by simp [isum]⟩
    · rintro ⟨h1, h2, h3⟩
      match v, h1 with
      | [x], _ => simp [isum] at h3; rw [h3]
  | k + 1, s, v => by
    simp only [vecs, List.mem_flatMap, List.mem_range, List.mem_map]
    constructor
    · rintro ⟨x, hx, u, hu, rfl⟩
      obtain ⟨h1, h2, h3⟩ := mem_vecs.1 hu
      refine ⟨by simp [h1], fun y hy => ?_, by rw [isum_cons, h3]; omega⟩
      rcases List.mem_cons.1 hy with e | hy
      · omega
      · exact h2 y hy
    · rintro ⟨h1, h2, h3⟩
      match v, h1 with
      | x :: u, h1 =>
        have hx := h2 x (by simp)
        have hu : ∀ y ∈ u, 0 ≤ y := fun y hy => h2 y (by simp [hy])
        have hs : 0 ≤ isum u := by
          clear h1 h2 h3
          induction u with
          | nil => simp [isum]
          | cons a t ih =>
            rw [isum_cons]
            have := hu a (by simp)
            have := ih fun y hy => hu y (by simp [hy])
            omega
        rw [isum_cons] at h3
        refine ⟨x.toNat, by omega, u, mem_vecs.2 ⟨by simpa using h1, hu, by omega⟩, by rw [Int.toNat_of_nonneg hx]⟩

/-- The part of vecs whose first elements are below x. -/
def vupto (k s x : Nat) : List (List Int) := (List.range x).flatMap fun y => (vecs k (s - y)).map ((y : Int) :: ·)
theorem vupto_succ (k s x : Nat) : vupto k s (x + 1) = vupto k s x ++ (vecs k (s - x)).map ((x : Int) :: ·) := by
  simp [vupto, List.range_succ]
theorem vupto_all (k s : Nat) : vupto k s (s + 1) = vecs (k + 1) s := rfl
theorem vupto_zero (k s : Nat) : vupto k s 0 = [] := rfl
theorem vupto_split (k s x : Nat) (hx : x ≤ s) : ∃ more, vecs (k + 1) s = vupto k s x ++ (vecs k (s - x)).map ((x : Int) :: ·) ++ more := by
  rw [← vupto_succ]
  have key : ∀ d, ∃ more, vupto k s (x + 1 + d) = vupto k s (x + 1) ++ more := fun d => by
    induction d with
    | zero => exact ⟨[], by simp⟩
    | succ d ih =>
      obtain ⟨m, hm⟩ := ih
      exact ⟨_, by rw [← Nat.add_assoc, vupto_succ, hm, List.append_assoc]⟩
  obtain ⟨m, hm⟩ := key (s - x)
  refine ⟨m, ?_⟩
  rw [← hm, ← vupto_all]
  congr 1; omega
end Go.Proofs.Ythpobeeccgmieaa
