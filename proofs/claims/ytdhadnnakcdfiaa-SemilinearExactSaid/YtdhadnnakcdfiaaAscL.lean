/- Plain law: ascending lists of lists; what sorting and compacting leave. -/
import Derived.Test.YtdhadnnakcdfiaaSortO
import Derived.Test.YtdhadnnakcdfiaaCompactL
import Derived.Test.YtdhadnnakcdfiaaPutL
namespace Go.Proofs.Ytdhadnnakcdfiaa
set_option linter.unusedVariables false
open Go.RowKit

theorem cmpL_le {a b : List Int} : ¬ cmpL a b < 0 ↔ cmpL b a ≤ 0 := by have := cmpL_swap a b; omega
theorem cmpL_total {a b : List Int} (h : ¬ cmpL a b < 0) : a = b ∨ cmpL b a < 0 := by
  by_cases e : cmpL a b = 0
  · exact .inl (cmpL_zero.1 e)
  · exact .inr (by have := cmpL_swap a b; omega)
theorem cmpL_swo : Sort.SWO (ltOf cmpL) := by
  refine ⟨fun x => by simp [ltOf, cmpL_self], fun x y z h1 h2 => ?_, fun x y z h1 h2 => ?_⟩
  · simp only [ltOf, decide_eq_true_iff] at *; exact cmpL_trans h1 h2
  · simp only [ltOf, decide_eq_false_iff_not] at *
    rcases cmpL_total h1 with rfl | h3
    · exact h2
    · rcases cmpL_total h2 with rfl | h4
      · exact h1
      · have := cmpL_trans h4 h3
        have := cmpL_swap x z
        omega

/-- What sorting and compacting leave: the same words, ascending. -/
theorem compL_asc {xs : List (List Int)} (h : xs.Pairwise fun a b => ¬ cmpL b a < 0) : Asc (compL (fun a b => decide (a = b)) [] xs) ∧ ∀ x, x ∈ compL (fun a b => decide (a = b)) [] xs ↔ x ∈ xs := by
  have hle : ∀ i j, i ≤ j → j < xs.length → ¬ cmpL (xs.getD j []) (xs.getD i []) < 0 := fun i j hij hj => by
    rcases Nat.eq_or_lt_of_le hij with rfl | hlt
    · rw [cmpL_self]; omega
    · have := List.pairwise_iff_getElem.1 h i j (by omega) hj hlt
      simpa [List.getD_eq_getElem?_getD, hj, show i < xs.length by omega] using this
  constructor
  · unfold compL Asc
    rw [List.pairwise_map]
    refine List.Pairwise.imp_of_mem ?_ ((List.pairwise_lt_range (n := xs.length)).filter _)
    intro i j hi hj hij
    have hj2 := List.mem_filter.1 hj
    have hjn := List.mem_range.1 hj2.1
    have hne : xs.getD j [] ≠ xs.getD (j - 1) [] := by
      have := hj2.2
      simp only [Bool.or_eq_true, decide_eq_true_iff, Bool.not_eq_true', decide_eq_false_iff_not] at this
      rcases this with h0 | h0
      · omega
      · exact h0
    have h1 := hle i (j - 1) (by omega) (by omega)
    have h2 := hle (j - 1) j (by omega) hjn
    rcases cmpL_total h2 with e | h3
    · exact absurd e hne
    · rcases cmpL_total h1 with e | h4
      · rw [← e]; exact h3
      · exact cmpL_trans h4 h3
  · intro x
    unfold compL
    rw [List.mem_map]
    constructor
    · rintro ⟨j, hj, rfl⟩
      exact getD_mem (keptI_lt hj)
    · intro hx
      obtain ⟨i, hi, rfl⟩ := mem_getD (d := []) hx
      have : ∀ i, i < xs.length → ∃ j, j ∈ keptI (fun a b => decide (a = b)) [] xs xs.length ∧ xs.getD j [] = xs.getD i [] := by
        intro i
        induction i with
        | zero => exact fun h0 => ⟨0, List.mem_filter.2 ⟨List.mem_range.2 h0, by simp⟩, rfl⟩
        | succ i ih =>
          intro hi
          by_cases e : xs.getD (i + 1) [] = xs.getD i []
          · obtain ⟨j, h1, h2⟩ := ih (by omega)
            exact ⟨j, h1, by rw [h2, e]⟩
          · exact ⟨i + 1, List.mem_filter.2 ⟨List.mem_range.2 hi, by
              have hd : decide (xs.getD (i + 1) [] = xs.getD (i + 1 - 1) []) = false := decide_eq_false e
              show (_ || !(decide (xs.getD (i + 1) [] = xs.getD (i + 1 - 1) []))) = true
              rw [hd]; simp⟩, rfl⟩
      exact this i hi

theorem asc_ext : ∀ {a b : List (List Int)}, Asc a → Asc b → (∀ x, x ∈ a ↔ x ∈ b) → a = b
  | [], [], _, _, _ => rfl
  | [], y :: b, _, _, h => by have := (h y).2 (by simp); cases this
  | x :: a, [], _, _, h => by have := (h x).1 (by simp); cases this
  | x :: a, y :: b, ha, hb, h => by
    have ha' := List.pairwise_cons.1 ha
    have hb' := List.pairwise_cons.1 hb
    have e : x = y := by
      rcases List.mem_cons.1 ((h x).1 (by simp)) with e | e
      · exact e
      · rcases List.mem_cons.1 ((h y).2 (by simp)) with e' | e'
        · exact e'.symm
        · have := cmpL_trans (ha'.1 y e') (hb'.1 x e)
          rw [cmpL_self] at this; omega
    subst e
    congr 1
    refine asc_ext ha'.2 hb'.2 fun z => ?_
    have hz := h z
    constructor
    · intro hm
      rcases List.mem_cons.1 (hz.1 (by simp [hm])) with e | e
      · have := ha'.1 z hm; rw [e, cmpL_self] at this; omega
      · exact e
    · intro hm
      rcases List.mem_cons.1 (hz.2 (by simp [hm])) with e | e
      · have := hb'.1 z hm; rw [e, cmpL_self] at this; omega
      · exact e

theorem asc_sub {a b : List (List Int)} (h : Asc b) (hs : a.Sublist b) : Asc a := List.Pairwise.sublist hs h

theorem nodup_len {α : Type} [DecidableEq α] : ∀ {zs L : List α}, zs.Nodup → (∀ z ∈ zs, z ∈ L) → zs.length ≤ L.length
  | [], _, _, _ => by simp
  | z :: zs, L, h, hs => by
    have h1 := List.nodup_cons.1 h
    have hz : z ∈ L := hs z (by simp)
    have := nodup_len (L := L.erase z) h1.2 (fun u hu => (List.mem_erase_of_ne (fun e => h1.1 (by rw [← e]; exact hu))).2 (hs u (by simp [hu])))
    rw [List.length_erase_of_mem hz] at this
    have hp : 0 < L.length := List.length_pos_of_mem hz
    simp only [List.length_cons]; omega
theorem asc_nodup {zs : List (List Int)} (h : Asc zs) : zs.Nodup := List.Pairwise.imp (fun {a b} hab e => by rw [e, cmpL_self] at hab; omega) h
theorem asc_len {zs L : List (List Int)} (h : Asc zs) (hs : ∀ z ∈ zs, z ∈ L) : zs.length ≤ L.length := nodup_len (asc_nodup h) hs

theorem asc_ne {ys : List (List Int)} (h : Asc ys) {i j : Nat} (hi : i < ys.length) (hj : j < ys.length) (hne : j ≠ i) : ys.getD j [] ≠ ys.getD i [] := fun e => by
  have ei : ys.getD i [] = ys[i] := by simp [List.getD_eq_getElem?_getD, hi]
  have ej : ys.getD j [] = ys[j] := by simp [List.getD_eq_getElem?_getD, hj]
  rw [ei, ej] at e
  rcases Nat.lt_or_gt_of_ne hne with h1 | h1
  · have := List.pairwise_iff_getElem.1 h j i hj hi h1
    rw [e, cmpL_self] at this; omega
  · have := List.pairwise_iff_getElem.1 h i j hi hj h1
    rw [e, cmpL_self] at this; omega
end Go.Proofs.Ytdhadnnakcdfiaa
