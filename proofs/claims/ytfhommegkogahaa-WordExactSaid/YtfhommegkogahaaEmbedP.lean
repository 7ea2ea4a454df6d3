/- Plain law: the places that Embed returns, and that they are the least ones. -/
import Derived.Test.YtfhommegkogahaaProvesW
namespace Go.Proofs.Ytfhommegkogahaa
set_option linter.unusedVariables false

theorem idxI_le {b : List Int} {x : Int} {k : Nat} (hk : k < b.length) (h : b.getD k 0 = x) : 0 ≤ idxI b x ∧ idxI b x ≤ k := by
  rcases idxI_cases b x with ⟨h1, h2, h3⟩ | ⟨pre, rest, he, h2, h3⟩
  · exact absurd (by rw [← h]; exact getD_mem hk) h3
  · rw [h3]
    refine ⟨by omega, ?_⟩
    refine Classical.byContradiction fun hlt => h2 ?_
    have hkp : k < pre.length := by omega
    rw [he, getD_append_left' _ _ _ hkp] at h
    rw [← h]; exact getD_mem hkp
theorem idxI_get {b : List Int} {x : Int} (h : 0 ≤ idxI b x) : (idxI b x).toNat < b.length ∧ b.getD (idxI b x).toNat 0 = x := by
  rcases idxI_cases b x with ⟨h1, h2, h3⟩ | ⟨pre, rest, he, h2, h3⟩
  · omega
  · rw [h3, Int.toNat_natCast, he]
    refine ⟨by simp, ?_⟩
    rw [getD_append_right' _ _ _ (Nat.le_refl _), Nat.sub_self]; rfl
theorem getD_drop (b : List Int) (n k : Nat) : (b.drop n).getD k 0 = b.getD (n + k) 0 := by simp [List.getD_eq_getElem?_getD, List.getElem?_drop]

/-- Ascending places from a place on. -/
def PlFrom (a b p : List Int) (at_ : Nat) : Prop := p.length = a.length ∧ ∀ i, i < a.length → (at_ : Int) ≤ p.getD i 0 ∧ PlAt a b p i
theorem plFrom_nil (b : List Int) (at_ : Nat) : PlFrom [] b [] at_ := ⟨rfl, fun i hi => absurd hi (by simp)⟩
theorem plFrom_cons {x : Int} {a b p : List Int} {at_ k : Nat} (hk : at_ ≤ k) (hkb : k < b.length) (hx : b.getD k 0 = x) (h : PlFrom a b p (k + 1)) : PlFrom (x :: a) b ((k : Int) :: p) at_ := by
  refine ⟨by simp [h.1], fun i hi => ?_⟩
  cases i with
  | zero =>
    refine ⟨by simp only [List.getD_cons_zero]; omega, ?_⟩
    refine ⟨by simp only [List.getD_cons_zero]; omega, by simp only [List.getD_cons_zero]; omega, ?_, fun h => by omega⟩
    simp only [List.getD_cons_zero, Int.toNat_natCast]; exact hx
  | succ i =>
    have hi' : i < a.length := by simpa using hi
    obtain ⟨h1, h2, h3, h4, h5⟩ := h.2 i hi'
    refine ⟨by simp only [List.getD_cons_succ]; omega, ?_⟩
    refine ⟨by simp only [List.getD_cons_succ]; omega, by simp only [List.getD_cons_succ]; omega, by simp only [List.getD_cons_succ]; exact h4, fun _ => ?_⟩
    simp only [List.getD_cons_succ, Nat.add_sub_cancel]
    cases i with
    | zero => simp only [List.getD_cons_zero] at h1 ⊢; omega
    | succ i =>
      have := h5 (by omega)
      simpa using this

theorem embF_places : ∀ (a b : List Int) (at_ : Nat) (p : List Int), embF a b at_ = some p → PlFrom a b p at_
  | [], b, at_, p, h => by
    simp only [embF, Option.some.injEq] at h; subst h; exact plFrom_nil b at_
  | x :: a, b, at_, p, h => by
    unfold embF at h
    split at h
    · cases h
    · rename_i hge
      obtain ⟨q, h1, rfl⟩ := Option.map_eq_some_iff.1 h
      obtain ⟨h2, h3⟩ := idxI_get (b := b.drop at_) (x := x) (by omega)
      rw [getD_drop] at h3
      rw [List.length_drop] at h2
      have ih := embF_places a b _ q h1
      have e : (at_ : Int) + idxI (b.drop at_) x = ((at_ + (idxI (b.drop at_) x).toNat : Nat) : Int) := by omega
      rw [e]
      exact plFrom_cons (by omega) (by omega) h3 ih
theorem embF_least : ∀ (a b : List Int) (at_ : Nat) (q : List Int), PlFrom a b q at_ → ∃ p, embF a b at_ = some p ∧ ∀ i, i < a.length → p.getD i 0 ≤ q.getD i 0
  | [], b, at_, q, h => ⟨[], rfl, fun i hi => absurd hi (by simp)⟩
  | x :: a, b, at_, [], h => by have := h.1; simp at this
  | x :: a, b, at_, y :: q, h => by
    obtain ⟨h1, h2, h3, h4, _⟩ := h.2 0 (by simp)
    simp only [List.getD_cons_zero] at h1 h2 h3 h4
    have hle := idxI_le (b := b.drop at_) (x := x) (k := y.toNat - at_) (by rw [List.length_drop]; omega) (by rw [getD_drop, show at_ + (y.toNat - at_) = y.toNat by omega]; exact h4)
    have htl : PlFrom a b q (at_ + (idxI (b.drop at_) x).toNat + 1) := by
      refine ⟨by simpa using h.1, fun i hi => ?_⟩
      have hall : ∀ j, j < a.length → y < q.getD j 0 := fun j => by
        induction j with
        | zero => intro hj; have := (h.2 1 (by simpa using hj)).2.2.2.2 (by omega); simpa using this
        | succ j ih =>
          intro hj
          have h6 := ih (by omega)
          have := (h.2 (j + 2) (by simp; omega)).2.2.2.2 (by omega)
          simp at this h6 ⊢; omega
      obtain ⟨g1, g2, g3, g4, g5⟩ := h.2 (i + 1) (by simpa using hi)
      simp only [List.getD_cons_succ] at g1 g2 g3 g4 g5
      have := hall i hi
      refine ⟨by omega, g2, g3, g4, fun h0 => ?_⟩
      have := g5 (by omega)
      obtain ⟨i', rfl⟩ : ∃ i', i = i' + 1 := ⟨i - 1, by omega⟩
      simpa using this
    obtain ⟨p, hp, hpl⟩ := embF_least a b _ q htl
    refine ⟨_, by rw [embF, if_neg (by omega), hp]; rfl, fun i hi => ?_⟩
    cases i with
    | zero => simp only [List.getD_cons_zero]; omega
    | succ i => simp only [List.getD_cons_succ]; exact hpl i (by simpa using hi)
theorem embW_proves {a b p : List Int} (h : embW a b = some p) : WProves a b p := by
  by_cases hv : WValid a ∧ WValid b
  · rw [embW_yes hv.1 hv.2] at h
    have := embF_places a b 0 p h
    exact ⟨hv.1, hv.2, this.1, fun i hi => (this.2 i hi).2⟩
  · rw [embW_no hv] at h; cases h
theorem embW_least {a b q : List Int} (h : WProves a b q) : ∃ p, embW a b = some p ∧ p.length = q.length ∧ ∀ i, i < q.length → p.getD i 0 ≤ q.getD i 0 := by
  obtain ⟨h1, h2, h3, h4⟩ := h
  obtain ⟨p, hp, hl⟩ := embF_least a b 0 q ⟨h3, fun i hi => ⟨by have := (h4 i hi).1; omega, h4 i hi⟩⟩
  exact ⟨p, by rw [embW_yes h1 h2]; exact hp, by rw [embF_len hp, h3], fun i hi => hl i (by omega)⟩
end Go.Proofs.Ytfhommegkogahaa
