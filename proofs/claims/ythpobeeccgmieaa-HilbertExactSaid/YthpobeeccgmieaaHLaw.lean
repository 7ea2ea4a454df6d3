/- What the laws about hilbert share. -/
import Derived.Test.YthpobeeccgmieaaAwake
import Derived.Test.YthpobeeccgmieaaDeckM
import Derived.Test.YthpobeeccgmieaaRVec
import Derived.Test.YthpobeeccgmieaaNow
namespace Go.Proofs.Ythpobeeccgmieaa
set_option linter.unusedVariables false
open Go.RowKit

/-- Below each solution there is a minimal one. -/
theorem exists_min {P : List Int → Bool} {k lo hi : Nat} : ∀ (s : Nat) (x : List Int), Solv P k lo hi x → isum x ≤ s → ∃ y, MinS P k lo hi y ∧ VLe y x := by
  intro s
  induction s with
  | zero =>
    intro x hx hs
    refine ⟨x, ⟨hx, fun y hy hle => ?_⟩, VLe.refl x⟩
    obtain ⟨h1, h2⟩ := vle_isum hle
    have := (isum_ge hy.pos).1
    exact h2 (by omega)
  | succ s ih =>
    intro x hx hs
    refine Classical.byContradiction fun hn => ?_
    have : ∃ y, Solv P k lo hi y ∧ VLe y x ∧ y ≠ x := by
      refine Classical.byContradiction fun hne => hn ⟨x, ⟨hx, fun y hy hle => Classical.byContradiction fun h => hne ⟨y, hy, hle, h⟩⟩, VLe.refl x⟩
    obtain ⟨y, hy, hle, hyx⟩ := this
    obtain ⟨h1, h2⟩ := vle_isum hle
    obtain ⟨z, hz, hzy⟩ := ih y hy (by
      have : isum y ≠ isum x := fun e => hyx (h2 e)
      omega)
    exact hn ⟨z, hz, hzy.trans hle⟩
theorem Solv.fin {P : List Int → Bool} {k lo hi : Nat} {x : List Int} (h : Solv P k lo hi x) (hk : k ≤ 5) (hh : hi ≤ 10) : VFin x := vval_small (M := 10) (by have := h.len; omega) h.pos (by have := h.le; omega) (by omega)
theorem MinQ.len {P : List Int → Bool} {k lo hi : Nat} {ys : List (List Int)} (h : MinQ P k lo hi ys) (hk : k ≤ 5) (hl : lo ≤ hi) (hh : hi ≤ 10) : ys.length ≤ 2000000 := by
  have h1 := asc_len (L := cands k lo (hi + 1 - lo)) h.1 fun v hv => by
    have h1 := ((h.2 v).1 hv).1
    rw [mem_cands]
    exact ⟨h1.len, h1.pos, h1.ge, by have := h1.le; omega⟩
  have h2 := cands_len k lo hk (hi + 1 - lo) (by omega)
  have h3 : (hi + 1 - lo) * 161051 ≤ 11 * 161051 := Nat.mul_le_mul_right _ (by omega)
  omega
theorem MinQ.len4 {P : List Int → Bool} {k lo hi : Nat} {ys : List (List Int)} (h : MinQ P k lo hi ys) (hk : k ≤ 5) (hl : lo ≤ hi) (hh : hi ≤ 5) : ys.length ≤ 1000000 := by
  have h1 := asc_len (L := cands k lo (hi + 1 - lo)) h.1 fun v hv => by
    have h1 := ((h.2 v).1 hv).1
    rw [mem_cands]
    exact ⟨h1.len, h1.pos, h1.ge, by have := h1.le; omega⟩
  have h2 := cands_len k lo hk (hi + 1 - lo) (by omega)
  have h3 : (hi + 1 - lo) * 161051 ≤ 6 * 161051 := Nat.mul_le_mul_right _ (by omega)
  omega
/-- The system answers of a solution. -/
theorem solvesB_of {A : List (List Int)} {b x : List Int} {r n : Nat} (hS : Sys A r n) (hb : b.length = r) (hr : rngB b = true) : solvesB A b x = true ↔ x.length = n ∧ VFin x ∧ solB A b x = true := by
  unfold solvesB
  rw [show chkE A b = 0 from chkE_zero.2 ⟨hS.b.1, by rw [hb, hS.mat.rows], hr⟩, hS.b.2.2]
  simp only [decide_true, Bool.true_and, Bool.and_eq_true, decide_eq_true_eq, vfB_true]
theorem rng2 {x y r : Nat} (hx : x ≤ 1000) (hy : y ≤ 1000) : rngB ([(x : Int), (y : Int)].take r) = true := by
  unfold rngB
  rw [List.all_eq_true]
  intro z hz
  have := List.mem_of_mem_take hz
  simp only [List.mem_cons, List.not_mem_nil, or_false] at this
  refine decide_eq_true ?_
  rcases this with rfl | rfl <;> omega
end Go.Proofs.Ythpobeeccgmieaa
