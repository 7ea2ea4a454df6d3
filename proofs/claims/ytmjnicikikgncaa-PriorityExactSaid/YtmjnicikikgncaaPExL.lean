/- Plain law: what the reference's functions on words of ranked letters compute is what the program's compute. -/
import Derived.Test.YtmjnicikikgncaaPProves
import Derived.Test.YtmjnicikikgncaaRPlaces
namespace Go.Proofs.Ytmjnicikikgncaa
set_option linter.unusedVariables false
open Go.RowKit

section
variable {rk : Int → Int}
/-- Places, from one on: what prL says besides the ranks. -/
theorem prL_places : ∀ {a b p : List Int} {f : Nat}, prL rk a b p f → (∀ i, i < a.length → (f : Int) ≤ p.getD i 0) ∧ PlOf a b p ∧ (a = [] → f = b.length) ∧ (a ≠ [] → p.getD (a.length - 1) 0 = (b.length : Int) - 1)
  | [], b, [], f, h => ⟨fun i hi => absurd hi (Nat.not_lt_zero i), ⟨rfl, fun i hi => absurd hi (Nat.not_lt_zero i), fun i hi => absurd hi (Nat.not_lt_zero i), fun i hi => absurd hi (Nat.not_lt_zero i), fun i hi => absurd hi (Nat.not_lt_zero i)⟩, fun _ => h, fun h => absurd rfl h⟩
  | x :: a, b, y :: p, f, h => by
    obtain ⟨h1, h2, h3, h4, h5⟩ := h
    obtain ⟨g1, g2, g3, g4⟩ := prL_places h5
    refine ⟨fun i hi => ?_, ⟨by simp [g2.len], fun i hi => ?_, fun i hi => ?_, fun i hi => ?_, fun i hi h0 => ?_⟩, fun e => by simp at e, fun _ => ?_⟩
    · cases i with
      | zero => simpa using h1
      | succ i => have := g1 i (by simpa using hi); simp only [List.getD_cons_succ]; omega
    · cases i with
      | zero => simp; omega
      | succ i => have := g1 i (by simpa using hi); simp only [List.getD_cons_succ]; omega
    · cases i with
      | zero => simpa using h2
      | succ i => have := g2.high i (by simpa using hi); simp only [List.getD_cons_succ]; omega
    · cases i with
      | zero => simpa using h3
      | succ i => have := g2.letter i (by simpa using hi); simpa using this
    · cases i with
      | zero => omega
      | succ i =>
        simp only [Nat.add_sub_cancel, List.getD_cons_succ]
        cases i with
        | zero => have := g1 0 (by simpa using hi); simp only [List.getD_cons_zero]; omega
        | succ i => have := g2.asc (i + 1) (by simpa using hi) (by omega); simpa using this
    · by_cases ha : a = []
      · subst ha
        have := g3 rfl
        simp only [List.length_cons, List.length_nil, Nat.zero_add, Nat.sub_self, List.getD_cons_zero]
        omega
      · have := g4 ha
        have hpos : 0 < a.length := List.length_pos_iff.2 ha
        obtain ⟨n, hn⟩ : ∃ n, a.length = n + 1 := ⟨a.length - 1, by omega⟩
        rw [List.length_cons, Nat.add_sub_cancel, hn, List.getD_cons_succ]
        rw [hn, Nat.add_sub_cancel] at this
        exact this

/-- What the reference's search has come to. -/
structure FindAt (rk : Int → Int) (x : Int) (a b : List Int) (f i : Nat) : Prop where
  none : ∀ d, d < i → sstep rk x a b f d = Option.none
  low : ∀ d, f ≤ d → d < i → rk (b.getD d 0) ≤ rk x
theorem FindAt.start {x : Int} {a b : List Int} {f : Nat} : FindAt rk x a b f f :=
  ⟨fun d hd => sstep_no fun h => by have := h.1; omega, fun d h1 h2 => by omega⟩
theorem FindAt.cov {x : Int} {a b : List Int} {f i : Nat} (h : FindAt rk x a b f i) (e : b.getD i 0 = x) : Cov rk b f i := fun d h1 h2 => by rw [e]; exact h.low d h1 h2
theorem FindAt.step_at {x : Int} {a b : List Int} {f i : Nat} (h : FindAt rk x a b f i) (hf : f ≤ i) (e : b.getD i 0 = x) : sstep rk x a b f i = (srch rk a b (i + 1)).map fun q => (i : Int) :: q :=
  sstep_yes ⟨hf, e, h.cov e⟩
theorem FindAt.more {x : Int} {a b : List Int} {f i : Nat} (h : FindAt rk x a b f i) (hf : f ≤ i) (hs : sstep rk x a b f i = Option.none) (hr : rk (b.getD i 0) ≤ rk x) : FindAt rk x a b f (i + 1) :=
  ⟨fun d hd => by
    by_cases e : d = i
    · subst e; exact hs
    · exact h.none d (by omega), fun d h1 h2 => by
    by_cases e : d = i
    · subst e; exact hr
    · exact h.low d h1 (by omega)⟩
theorem FindAt.found {x : Int} {a b : List Int} {f i : Nat} (h : FindAt rk x a b f i) (hf : f ≤ i) (hi : i < b.length) (e : b.getD i 0 = x) {q : List Int} (hq : srch rk a b (i + 1) = some q) : srch rk (x :: a) b f = some ((i : Int) :: q) := by
  have hs := h.step_at hf e
  rw [hq] at hs
  rw [srch_cons, findSome_at h.none hi (by rw [hs]; rfl), hs]; rfl
theorem FindAt.stop {x : Int} {a b : List Int} {f i : Nat} (h : FindAt rk x a b f i) (hf : f ≤ i) (hr : rk x < rk (b.getD i 0)) : srch rk (x :: a) b f = Option.none := by
  rw [srch_cons]
  refine findSome_none fun d hd => ?_
  rcases Nat.lt_or_ge d i with h1 | h1
  · exact h.none d h1
  · refine sstep_no fun ⟨h2, h3, h4⟩ => ?_
    rcases Nat.eq_or_lt_of_le h1 with h5 | h5
    · subst h5; rw [h3] at hr; omega
    · have := h4 i hf h5
      rw [h3] at this; omega
theorem FindAt.done {x : Int} {a b : List Int} {f i : Nat} (h : FindAt rk x a b f i) (hi : b.length ≤ i) : srch rk (x :: a) b f = Option.none := by
  rw [srch_cons]
  exact findSome_none fun d hd => h.none d (by omega)
end

end Go.Proofs.Ytmjnicikikgncaa
