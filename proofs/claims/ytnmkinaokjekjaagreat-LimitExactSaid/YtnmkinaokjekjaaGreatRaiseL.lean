/- Plain law: the reference's list of greatest vectors. -/
import Derived.Test.YtnmkinaokjekjaaGreatRedL
import Derived.Test.YtnmkinaokjekjaaGreatBeyL
import Derived.Test.YtnmkinaokjekjaaGreatPutL
namespace Go.Proofs.YtnmkinaokjekjaaGreat
set_option linter.unusedVariables false
open Go.RowKit

def raiseL (out : List (List Int)) (v : List Int) : List (List Int) := if out.any (fun x => vleB v x) then out else putL (out.filter fun x => !vleB x v) v
def greatL (l : List (List Int)) : List (List Int) := l.foldl raiseL []
theorem mem_raise {out : List (List Int)} {v x : List Int} : x ∈ raiseL out v ↔ x ∈ redS covG out v := by
  unfold raiseL redS covG
  split
  · rfl
  · rw [mem_putL, List.mem_append, List.mem_singleton, or_comm]
theorem raise_asc {out : List (List Int)} {v : List Int} (h : Asc out) : Asc (raiseL out v) := by
  unfold raiseL
  split
  · exact h
  · exact putL_asc (List.Pairwise.filter _ h)
theorem raise_len {out : List (List Int)} {v : List Int} : (raiseL out v).length ≤ out.length + 1 := by
  unfold raiseL
  split
  · omega
  · exact Nat.le_trans putL_len (by have := List.length_filter_le (fun x => !vleB x v) out; omega)
theorem redS_mem {cov : List Int → List Int → Bool} {out out' : List (List Int)} {v x : List Int} (h : ∀ x, x ∈ out ↔ x ∈ out') : x ∈ redS cov out v ↔ x ∈ redS cov out' v := by
  have ha : out.any (fun x => cov x v) = out'.any (fun x => cov x v) := by
    rw [Bool.eq_iff_iff, List.any_eq_true, List.any_eq_true]
    exact ⟨fun ⟨x, h1, h2⟩ => ⟨x, (h x).1 h1, h2⟩, fun ⟨x, h1, h2⟩ => ⟨x, (h x).2 h1, h2⟩⟩
  unfold redS
  rw [ha]
  split
  · exact h x
  · simp [h]
theorem great_snoc (l : List (List Int)) (v : List Int) : greatL (l ++ [v]) = raiseL (greatL l) v := by simp [greatL, List.foldl_append]
theorem great_inv : ∀ (l : List (List Int)), Asc (greatL l) ∧ ∀ x, x ∈ greatL l ↔ x ∈ redF covG l := by
  intro l
  rw [← List.reverse_reverse l]
  induction l.reverse with
  | nil => exact ⟨List.Pairwise.nil, fun x => by simp [greatL, redF]⟩
  | cons v l ih =>
    rw [List.reverse_cons, great_snoc, redF_snoc]
    exact ⟨raise_asc ih.1, fun x => mem_raise.trans (redS_mem ih.2)⟩
/-- The reference's list is any ascending list of the maximal vectors. -/
theorem great_eq {l out : List (List Int)} (ho : OrdOn covG l) (ha : Asc out) (hm : ∀ x, x ∈ out ↔ MaxOf covG l x) : greatL l = out :=
  asc_ext (great_inv l).1 ha fun x => ((great_inv l).2 x).trans ((redF_mem ho).trans (hm x).symm)
theorem great_len (l : List (List Int)) : (greatL l).length ≤ l.length := by
  rw [← List.reverse_reverse l]
  induction l.reverse with
  | nil => simp [greatL]
  | cons v l ih =>
    rw [List.reverse_cons, great_snoc, List.length_append, List.length_singleton]
    exact Nat.le_trans raise_len (by omega)
end Go.Proofs.YtnmkinaokjekjaaGreat
