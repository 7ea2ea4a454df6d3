/- Plain law: multiples of periods that make a vector, and the least of them. -/
import Derived.Test.YtdhadnnakcdfiaaOne
namespace Go.Proofs.Ytdhadnnakcdfiaa
set_option linter.unusedVariables false

def comb : List (List Int) → List Int → Nat → Int
  | p :: P, x :: t, i => x * p.getD i 0 + comb P t i
  | _, _, _ => 0

structure Makes (P : List (List Int)) (v t : List Int) : Prop where
  len : t.length = P.length
  nn : ∀ x ∈ t, 0 ≤ x
  eq : ∀ i, i < v.length → comb P t i = v.getD i 0

/-- The lexicographic order of lists of one length. -/
def VLt (a b : List Int) : Prop := LtV a.length (fun i => a.getD i 0) (fun i => b.getD i 0)
def Least (P : List (List Int)) (v k : List Int) : Prop := Makes P v k ∧ ∀ t, Makes P v t → ¬ VLt t k

theorem getD_nn {p : List Int} (h : ∀ x ∈ p, 0 ≤ x) (i : Nat) : 0 ≤ p.getD i 0 := by
  rw [List.getD_eq_getElem?_getD]
  by_cases hi : i < p.length
  · rw [List.getElem?_eq_getElem hi]; exact h _ (List.getElem_mem hi)
  · rw [List.getElem?_eq_none (by omega)]; exact Int.le_refl 0

theorem comb_nn : ∀ {P : List (List Int)} {t : List Int}, (∀ p ∈ P, ∀ x ∈ p, 0 ≤ x) → (∀ x ∈ t, 0 ≤ x) → ∀ i, 0 ≤ comb P t i
  | [], _, _, _, _ => by simp [comb]
  | _ :: _, [], _, _, _ => by simp [comb]
  | p :: P, x :: t, hP, ht, i => by
    unfold comb
    have h1 := getD_nn (hP p (List.mem_cons_self ..)) i
    have h2 := comb_nn (P := P) (t := t) (fun q hq => hP q (List.mem_cons_of_mem _ hq)) (fun y hy => ht y (List.mem_cons_of_mem _ hy)) i
    have h3 := Int.mul_nonneg (ht x (List.mem_cons_self ..)) h1
    omega

def subm (v : List Int) (x : Int) (p : List Int) : List Int := (List.range v.length).map fun i => v.getD i 0 - x * p.getD i 0
theorem subm_len (v : List Int) (x : Int) (p : List Int) : (subm v x p).length = v.length := by simp [subm]
theorem subm_get (v : List Int) (x : Int) (p : List Int) {i : Nat} (h : i < v.length) : (subm v x p).getD i 0 = v.getD i 0 - x * p.getD i 0 := by
  simp [subm, List.getD_eq_getElem?_getD, h]

theorem makes_nil {v t : List Int} : Makes [] v t ↔ t = [] ∧ ∀ i, i < v.length → v.getD i 0 = 0 := by
  constructor
  · rintro ⟨h1, h2, h3⟩
    exact ⟨List.eq_nil_of_length_eq_zero h1, fun i hi => by have := h3 i hi; simp [comb] at this; simpa using this.symm⟩
  · rintro ⟨rfl, h⟩
    exact ⟨rfl, by simp, fun i hi => by rw [h i hi]; simp [comb]⟩
theorem makes_cons {p : List Int} {P : List (List Int)} {v t : List Int} {x : Int} : Makes (p :: P) v (x :: t) ↔ 0 ≤ x ∧ Makes P (subm v x p) t := by
  constructor
  · rintro ⟨h1, h2, h3⟩
    refine ⟨h2 x (List.mem_cons_self ..), by simpa using h1, fun y hy => h2 y (List.mem_cons_of_mem _ hy), fun i hi => ?_⟩
    rw [subm_len] at hi
    have := h3 i hi
    rw [subm_get _ _ _ hi]
    unfold comb at this; omega
  · rintro ⟨h0, h1, h2, h3⟩
    refine ⟨by simpa using h1, fun y hy => ?_, fun i hi => ?_⟩
    · rcases List.mem_cons.1 hy with e | e
      · rw [e]; exact h0
      · exact h2 y e
    · have := h3 i (by rw [subm_len]; exact hi)
      rw [subm_get _ _ _ hi] at this
      unfold comb; omega
theorem makes_form {p : List Int} {P : List (List Int)} {v t : List Int} (h : Makes (p :: P) v t) : ∃ x t', t = x :: t' := by
  cases t with
  | nil => have := h.len; simp at this
  | cons x t' => exact ⟨x, t', rfl⟩

theorem vlt_head {x y : Int} {a b : List Int} (h : x < y) : VLt (x :: a) (y :: b) := ⟨0, by simp, fun i hi => by omega, by simpa using h⟩
theorem vlt_cons {x : Int} {a b : List Int} : VLt (x :: a) (x :: b) ↔ VLt a b := by
  constructor
  · rintro ⟨k, h1, h2, h3⟩
    cases k with
    | zero => simp at h3
    | succ k => exact ⟨k, by simpa using h1, fun i hi => by have := h2 (i + 1) (by omega); simpa using this, by simpa using h3⟩
  · rintro ⟨k, h1, h2, h3⟩
    refine ⟨k + 1, by simpa using h1, fun i hi => ?_, by simpa using h3⟩
    cases i with
    | zero => rfl
    | succ i => have := h2 i (by omega); simpa using this
theorem not_vlt_head {x y : Int} {a b : List Int} (h : y < x) : ¬ VLt (x :: a) (y :: b) := by
  rintro ⟨k, h1, h2, h3⟩
  cases k with
  | zero => simp at h3; omega
  | succ k => have := h2 0 (by omega); simp at this; omega

theorem least_nil {v : List Int} (h : ∀ i, i < v.length → v.getD i 0 = 0) : Least [] v [] :=
  ⟨makes_nil.2 ⟨rfl, h⟩, fun t ht => by
    obtain ⟨rfl, _⟩ := makes_nil.1 ht
    rintro ⟨k, h1, _⟩; simp at h1⟩
theorem least_cons {p : List Int} {P : List (List Int)} {v k : List Int} {n : Nat} (h : ∀ m : Nat, m < n → ∀ t, ¬ Makes P (subm v m p) t) (hk : Least P (subm v n p) k) : Least (p :: P) v ((n : Int) :: k) := by
  refine ⟨makes_cons.2 ⟨by omega, hk.1⟩, fun t ht => ?_⟩
  obtain ⟨x, t', rfl⟩ := makes_form ht
  obtain ⟨h0, h1⟩ := makes_cons.1 ht
  obtain ⟨m, rfl⟩ := Int.eq_ofNat_of_zero_le h0
  rcases Nat.lt_trichotomy m n with e | e | e
  · exact absurd h1 (h m e t')
  · subst e
    rw [vlt_cons]
    exact hk.2 t' h1
  · exact not_vlt_head (by omega)
theorem none_cons {p : List Int} {P : List (List Int)} {v : List Int} {n : Nat} (hP : ∀ q ∈ P, ∀ x ∈ q, 0 ≤ x) (hp : ∀ x ∈ p, 0 ≤ x) (h : ∀ m : Nat, m < n → ∀ t, ¬ Makes P (subm v m p) t) {i : Nat} (hi : i < v.length) (hneg : v.getD i 0 - (n : Int) * p.getD i 0 < 0) : ∀ t, ¬ Makes (p :: P) v t := by
  intro t ht
  obtain ⟨x, t', rfl⟩ := makes_form ht
  obtain ⟨h0, h1⟩ := makes_cons.1 ht
  obtain ⟨m, rfl⟩ := Int.eq_ofNat_of_zero_le h0
  by_cases e : m < n
  · exact h m e t' h1
  · have h2 := h1.eq i (by rw [subm_len]; exact hi)
    rw [subm_get _ _ _ hi] at h2
    have h3 := comb_nn hP h1.nn i
    have h4 : (n : Int) * p.getD i 0 ≤ (m : Int) * p.getD i 0 := Int.mul_le_mul_of_nonneg_right (by omega) (getD_nn hp i)
    omega
end Go.Proofs.Ytdhadnnakcdfiaa
