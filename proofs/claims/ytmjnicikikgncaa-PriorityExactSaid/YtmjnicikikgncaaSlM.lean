/- 's[i:j]': an equation for the walk, and what it reads as. -/
import Derived.Test.YtmjnicikikgncaaPush
namespace Go.Proofs.Ytmjnicikikgncaa
set_option linter.unusedVariables false
open Go.RowKit

theorem slice_mid {P : Program} {t e : TypeId} {z : Value} {bytes : Nat} (T : SlT P t e z bytes) {α : Type} {R : Rp α} {d : α} {w : World} {l : List Nat} {A : Option Addr} {n c : Nat} {xs : List α} (h : IsL R d w l (.slice A n c) xs) (i k : Nat) (hik : i ≤ k) (hk : k ≤ n) :
    ∃ A', (∀ (W : World), (Instr.slice t (.slice A n c) (some (.int .i64 (i : Int))) (some (.int .i64 (k : Int))) none).run P W = .ok (.slice A' (k - i) (c - i)) W) ∧ IsL R d w l (.slice A' (k - i) (c - i)) ((xs.drop i).take (k - i)) := by
  obtain ⟨A1, c1, V, hv, h1, h2, h3, h4⟩ := h
  injection hv with e1 e2 e3
  subst e1; subst e2; subst e3
  have hlen : ((xs.drop i).take (k - i)).length = k - i := by rw [List.length_take, List.length_drop]; omega
  refine ⟨if c = i then A else A.map (·.add (i * 1)), fun W => ?_, ?_⟩
  · have hel := elem_of T.ht
    have hu : P.underlying t = some (.slice (P.elem t)) := by rw [hel]; exact T.ht
    rw [run_slice_lh (P := P) W t A xs.length c hu .i64 .i64 (i : Int) (k : Int) (by omega) (by omega) (by omega), hel, size_of T]
    simp [Result.andThen, sliced]
  · refine ⟨_, c - i, fun j => V (j + i), by rw [hlen], by rw [hlen]; omega, fun hA => ?_, fun hn => ?_, fun j hj => ?_⟩
    · by_cases e : c = i
      · omega
      · rw [if_neg e] at hA
        have : A = none := by cases A with
          | none => rfl
          | some a => simp at hA
        have := h2 this; omega
    · rw [hlen] at hn
      obtain ⟨a, e, hb, hc⟩ := h3 (by omega)
      refine ⟨a.add i, by rw [if_neg (by omega), e]; simp, by rw [block_of_add]; exact hb, fun j hj => ?_⟩
      rw [hlen] at hj
      rw [add_of_add, Nat.add_comm i j]; exact hc _ (by omega)
    · rw [hlen] at hj
      have : ((xs.drop i).take (k - i)).getD j d = xs.getD (j + i) d := by simp [List.getD_eq_getElem?_getD, List.getElem?_take, hj, List.getElem?_drop, Nat.add_comm]
      rw [this]; exact h4 _ (by omega)
end Go.Proofs.Ytmjnicikikgncaa
