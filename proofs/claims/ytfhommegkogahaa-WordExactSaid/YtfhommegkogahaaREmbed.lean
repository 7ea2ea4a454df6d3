/- The reference's Embed of words: the plain law (the greedy places are the least places). -/
import Derived.Test.YtfhommegkogahaaEmbed
namespace Go.Proofs.Ytfhommegkogahaa
open Go.RowKit

/-- The reference's loop: the letters of b from the index i on, the places found so far. -/
def gst (a : List Int) : List Int → Nat → List Int → List Int
  | [], _, out => out
  | y :: b, i, out => gst a b (i + 1) (if a[out.length]? = some y then out ++ [(i : Int)] else out)

theorem embF_hit {a B rest : List Int} {y : Int} {at_ : Nat} (h : B.drop at_ = y :: rest) : embF (y :: a) B at_ = (embF a B (at_ + 1)).map fun p => (at_ : Int) :: p := by
  rw [embF, h]
  simp [idxI]

theorem embF_skip {a B rest : List Int} {x y : Int} {at_ : Nat} (h : B.drop at_ = y :: rest) (hne : x ≠ y) : embF (x :: a) B at_ = embF (x :: a) B (at_ + 1) := by
  have h1 : B.drop (at_ + 1) = rest := by rw [← List.drop_drop, h]; rfl
  rw [embF, embF, h, h1]
  by_cases h2 : idxI rest x < 0
  · have : idxI (y :: rest) x = -1 := by rw [idxI, if_neg hne, if_pos h2]
    rw [if_pos h2, this, if_pos (by decide)]
  · have : idxI (y :: rest) x = idxI rest x + 1 := by rw [idxI, if_neg hne, if_neg h2]
    have e1 : at_ + (idxI rest x + 1).toNat + 1 = at_ + 1 + (idxI rest x).toNat + 1 := by omega
    have e2 : (at_ : Int) + (idxI rest x + 1) = ((at_ + 1 : Nat) : Int) + idxI rest x := by omega
    rw [if_neg h2, this, if_neg (by omega), e1, e2]

theorem gst_embF (a B : List Int) : ∀ (s : List Int) (i : Nat) (out : List Int), B.drop i = s → out.length ≤ a.length →
    (∃ p, embF (a.drop out.length) B i = some p ∧ gst a s i out = out ++ p) ∨ (embF (a.drop out.length) B i = none ∧ (gst a s i out).length < a.length)
  | [], i, out, hs, hl => by
    cases he : a.drop out.length with
    | nil => exact .inl ⟨[], by rw [embF], by simp [gst]⟩
    | cons x a' =>
      have hlt : out.length < a.length := by
        rcases Nat.lt_or_ge out.length a.length with h | h
        · exact h
        · rw [List.drop_eq_nil_of_le h] at he; cases he
      exact .inr ⟨by rw [embF, hs]; simp [idxI], by rw [gst]; exact hlt⟩
  | y :: rest, i, out, hs, hl => by
    have h1 : B.drop (i + 1) = rest := by rw [← List.drop_drop, hs]; rfl
    rw [gst]
    cases he : a.drop out.length with
    | nil =>
      have hge : a.length ≤ out.length := List.drop_eq_nil_iff.1 he
      rw [if_neg (by rw [List.getElem?_eq_none hge]; simp)]
      rcases gst_embF a B rest (i + 1) out h1 hl with ⟨p, h2, h3⟩ | ⟨h2, h3⟩
      · rw [he, embF] at h2
        cases h2
        exact .inl ⟨[], by rw [embF], h3⟩
      · rw [he, embF] at h2
        cases h2
    | cons x a' =>
      have hlt : out.length < a.length := by
        rcases Nat.lt_or_ge out.length a.length with h | h
        · exact h
        · rw [List.drop_eq_nil_of_le h] at he; cases he
      have hd := List.drop_eq_getElem_cons hlt
      rw [he] at hd
      injection hd with hx ha
      by_cases e : x = y
      · subst e
        rw [if_pos (by rw [List.getElem?_eq_getElem hlt, ← hx])]
        have hlen : (out ++ [(i : Int)]).length = out.length + 1 := by simp
        rcases gst_embF a B rest (i + 1) (out ++ [(i : Int)]) h1 (by omega) with ⟨p, h2, h3⟩ | ⟨h2, h3⟩
        · rw [hlen, ← ha] at h2
          exact .inl ⟨(i : Int) :: p, by rw [embF_hit hs, h2]; rfl, by rw [h3]; simp⟩
        · rw [hlen, ← ha] at h2
          exact .inr ⟨by rw [embF_hit hs, h2]; rfl, h3⟩
      · rw [if_neg (by rw [List.getElem?_eq_getElem hlt, ← hx]; simpa using e)]
        rcases gst_embF a B rest (i + 1) out h1 hl with ⟨p, h2, h3⟩ | ⟨h2, h3⟩
        · rw [he] at h2
          exact .inl ⟨p, by rw [embF_skip hs e, h2], h3⟩
        · rw [he] at h2
          exact .inr ⟨by rw [embF_skip hs e, h2], h3⟩
end Go.Proofs.Ytfhommegkogahaa
