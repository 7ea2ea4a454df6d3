/- Words: what the reference's Valid, Embed and Leq answer (plain; the walks lie in RValid, REmbedW). -/
import Derived.Test.YtmjnicikikgncaaPrioV
namespace Go.Proofs.Ytmjnicikikgncaa
set_option linter.unusedVariables false
open Go.RowKit

def WValid (a : List Int) : Prop := a.length ≤ 12 ∧ ∀ x ∈ a, 0 ≤ x ∧ x < 16
open Classical in
noncomputable def wvB (a : List Int) : Bool := decide (WValid a)
theorem wvB_true {a : List Int} : wvB a = true ↔ WValid a := by simp [wvB]
theorem wvB_false {a : List Int} : wvB a = false ↔ ¬ WValid a := by simp [wvB]


def idxI : List Int → Int → Int
  | [], _ => -1
  | y :: ys, x => if x = y then 0 else if idxI ys x < 0 then -1 else idxI ys x + 1

theorem idxI_cases : ∀ (b : List Int) (x : Int), (idxI b x < 0 ∧ idxI b x = -1 ∧ x ∉ b) ∨ ∃ pre rest, b = pre ++ x :: rest ∧ x ∉ pre ∧ idxI b x = pre.length
  | [], x => .inl ⟨by simp [idxI], rfl, by simp⟩
  | y :: b, x => by
    by_cases e : x = y
    · exact .inr ⟨[], b, by simp [e], by simp, by simp [idxI, e]⟩
    · rcases idxI_cases b x with ⟨h1, h2, h3⟩ | ⟨pre, rest, rfl, h2, h3⟩
      · have : idxI (y :: b) x = -1 := by rw [idxI, if_neg e, if_pos h1]
        exact .inl ⟨by rw [this]; decide, this, by simp [e, h3]⟩
      · exact .inr ⟨y :: pre, rest, rfl, by simp [e, h2], by rw [idxI, if_neg e, h3, if_neg (by omega)]; simp⟩

/-- The least places of a word in another one, from a place on. -/
def embF : List Int → List Int → Nat → Option (List Int)
  | [], _, _ => some []
  | x :: a, b, at_ => if idxI (b.drop at_) x < 0 then none else (embF a b (at_ + (idxI (b.drop at_) x).toNat + 1)).map fun p => ((at_ : Int) + idxI (b.drop at_) x) :: p

theorem sub_skip {α : Type} {x : α} {a pre l : List α} (h : x ∉ pre) : (x :: a).Sublist (pre ++ l) ↔ (x :: a).Sublist l := by
  induction pre with
  | nil => simp
  | cons y pre ih =>
    have h1 : x ≠ y := fun e => h (by simp [e])
    have h2 : x ∉ pre := fun e => h (by simp [e])
    rw [List.cons_append, ← ih h2]
    constructor
    · intro hs
      cases hs with
      | cons _ h => exact h
      | cons_cons _ h => exact absurd rfl h1
    · exact fun hs => hs.cons _

theorem embF_some : ∀ (a b : List Int) (at_ : Nat), (embF a b at_).isSome = true ↔ a.Sublist (b.drop at_)
  | [], b, at_ => by simp [embF]
  | x :: a, b, at_ => by
    unfold embF
    rcases idxI_cases (b.drop at_) x with ⟨h1, h2, h3⟩ | ⟨pre, rest, he, h2, h3⟩
    · rw [if_pos h1]
      constructor
      · intro h; simp at h
      · intro h; exact absurd (h.subset (List.mem_cons_self ..)) h3
    · rw [if_neg (by rw [h3]; omega), h3, Option.isSome_map, embF_some a b _, he, sub_skip h2, List.cons_sublist_cons]
      have : b.drop (at_ + (pre.length : Int).toNat + 1) = rest := by
        rw [Int.toNat_natCast, Nat.add_assoc, ← List.drop_drop, he]
        have : pre ++ x :: rest = (pre ++ [x]) ++ rest := by simp
        rw [this, List.drop_append_of_le_length (by simp)]
        simp
      rw [this]

theorem embF_len : ∀ {a b : List Int} {at_ : Nat} {p : List Int}, embF a b at_ = some p → p.length = a.length
  | [], b, at_, p, h => by simp only [embF, Option.some.injEq] at h; subst h; rfl
  | x :: a, b, at_, p, h => by
    unfold embF at h
    split at h
    · cases h
    · obtain ⟨q, h1, rfl⟩ := Option.map_eq_some_iff.1 h
      simp [embF_len h1]

theorem embF_drop {a b : List Int} {k at_ : Nat} (hk : k < a.length) (h : 0 ≤ idxI (b.drop at_) (a.getD k 0)) :
    embF (a.drop k) b at_ = (embF (a.drop (k + 1)) b (at_ + (idxI (b.drop at_) (a.getD k 0)).toNat + 1)).map fun p => ((at_ : Int) + idxI (b.drop at_) (a.getD k 0)) :: p := by
  have e : a.drop k = a.getD k 0 :: a.drop (k + 1) := by rw [List.drop_eq_getElem_cons hk]; simp [List.getD_eq_getElem?_getD, hk]
  rw [e, embF, if_neg (by omega)]
theorem embF_drop_none {a b : List Int} {k at_ : Nat} (hk : k < a.length) (h : idxI (b.drop at_) (a.getD k 0) < 0) : embF (a.drop k) b at_ = none := by
  have e : a.drop k = a.getD k 0 :: a.drop (k + 1) := by rw [List.drop_eq_getElem_cons hk]; simp [List.getD_eq_getElem?_getD, hk]
  rw [e, embF, if_pos h]
theorem idxI_lt (b : List Int) (x : Int) : idxI b x < b.length ∧ -1 ≤ idxI b x := by
  rcases idxI_cases b x with ⟨h1, h2, h3⟩ | ⟨pre, rest, he, h2, h3⟩
  · rw [h2]; omega
  · rw [h3, he]; simp; omega

open Classical in
noncomputable def embW (a b : List Int) : Option (List Int) := if WValid a ∧ WValid b then embF a b 0 else none
theorem embW_no {a b : List Int} (h : ¬ (WValid a ∧ WValid b)) : embW a b = none := if_neg h
theorem embW_yes {a b : List Int} (h1 : WValid a) (h2 : WValid b) : embW a b = embF a b 0 := if_pos ⟨h1, h2⟩
def EmbPost (o : Option (List Int)) (l : List Nat) (w : World) (e : Ending) (w' : World) : Prop :=
  Keeps [] w w' ∧ ((o = none ∧ e = .returned (.tuple #[.slice none 0 0, .bool false])) ∨ ∃ A c p, o = some p ∧ e = .returned (.tuple #[.slice A p.length c, .bool true]) ∧ OwL IsN 0 3 w.heap.size w' l (.slice A p.length c) p)

/-- A word is below another one: both are valid, and the one is a subword of the other. -/
def WLeq (a b : List Int) : Prop := WValid a ∧ WValid b ∧ a.Sublist b
open Classical in
noncomputable def wleqB (a b : List Int) : Bool := decide (WLeq a b)
theorem wleqB_true {a b : List Int} : wleqB a b = true ↔ WLeq a b := by simp [wleqB]
theorem embW_some (a b : List Int) : (embW a b).isSome = wleqB a b := by
  rw [Bool.eq_iff_iff, wleqB_true]
  by_cases h1 : WValid a ∧ WValid b
  · rw [embW_yes h1.1 h1.2, embF_some, List.drop_zero]
    exact ⟨fun h => ⟨h1.1, h1.2, h⟩, fun h => h.2.2⟩
  · rw [embW_no h1]
    exact ⟨fun h => (by simp at h), fun h => absurd ⟨h.1, h.2.1⟩ h1⟩

end Go.Proofs.Ytmjnicikikgncaa
