/- Plain law: what Put keeps. -/
import Derived.Test.YtdhadnnakcdfiaaPut
namespace Go.Proofs.Ytdhadnnakcdfiaa
set_option linter.unusedVariables false

theorem mem_putL : ∀ {L : List (List Int)} {v x : List Int}, x ∈ putL L v ↔ x = v ∨ x ∈ L
  | [], v, x => by simp [putL]
  | y :: L, v, x => by
    unfold putL
    split
    · rw [List.mem_cons, mem_putL, List.mem_cons]
      constructor
      · rintro (h | h | h)
        · exact .inr (.inl h)
        · exact .inl h
        · exact .inr (.inr h)
      · rintro (h | h | h)
        · exact .inr (.inl h)
        · exact .inl h
        · exact .inr (.inr h)
    · split
      · rename_i e
        constructor
        · exact .inr
        · rintro (h | h)
          · rw [h, ← e]; exact List.mem_cons_self ..
          · exact h
      · simp
theorem putL_len : ∀ {L : List (List Int)} {v : List Int}, (putL L v).length ≤ L.length + 1
  | [], v => by simp [putL]
  | y :: L, v => by
    unfold putL
    split
    · have := putL_len (L := L) (v := v); simp; omega
    · split
      · simp
      · simp
def Asc (L : List (List Int)) : Prop := L.Pairwise fun a b => cmpL a b < 0
theorem putL_asc : ∀ {L : List (List Int)} {v : List Int}, Asc L → Asc (putL L v)
  | [], v, _ => by simp [putL, Asc]
  | y :: L, v, h => by
    have h1 := List.pairwise_cons.1 h
    unfold putL
    split
    · rename_i hc
      refine List.pairwise_cons.2 ⟨fun x hx => ?_, putL_asc h1.2⟩
      rcases mem_putL.1 hx with e | e
      · rw [e]; exact hc
      · exact h1.1 x e
    · split
      · exact h
      · rename_i hc he
        have hlt : cmpL v y < 0 := by
          have h2 := cmpL_swap v y
          have h3 : cmpL y v ≠ 0 := fun e => he (cmpL_zero.1 e)
          omega
        refine List.pairwise_cons.2 ⟨fun x hx => ?_, h⟩
        rcases List.mem_cons.1 hx with e | e
        · rw [e]; exact hlt
        · exact cmpL_trans hlt (h1.1 x e)
/-- The first list is less at the first place where the two differ. -/
def LtS (n : Nat) (a b : List Int) : Prop := ∃ k, k < n ∧ (∀ i, i < k → a.getD i 0 = b.getD i 0) ∧ a.getD k 0 < b.getD k 0
theorem lexc_vlt : ∀ {a b : List Int}, a.length = b.length → lexc a b < 0 → LtS a.length a b
  | [], [], _, h => by simp [lexc] at h
  | x :: a, y :: b, hl, h => by
    rw [lexc] at h
    by_cases e : x = y
    · subst e
      rw [if_pos rfl] at h
      obtain ⟨k, h1, h2, h3⟩ := lexc_vlt (by simpa using hl) h
      refine ⟨k + 1, by simpa using h1, fun i hi => ?_, by simpa using h3⟩
      cases i with
      | zero => rfl
      | succ i => have := h2 i (by omega); simpa using this
    · rw [if_neg e, ord_neg] at h
      exact ⟨0, by simp, fun i hi => by omega, by simpa using h⟩
  | [], _ :: _, hl, _ => by simp at hl
  | _ :: _, [], hl, _ => by simp at hl
end Go.Proofs.Ytdhadnnakcdfiaa
