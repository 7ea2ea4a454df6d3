/- Rows of the call's own whose cells are written; plain law of slices.CompactFunc. -/
import Derived.Test.YtdhadnnakcdfiaaRep
import Derived.Laws.Rows
import Derived.Laws.IdiomCopy
namespace Go.Proofs.Ytdhadnnakcdfiaa
set_option linter.unusedVariables false
open Go.RowKit

section
variable {w : World} {base g cap n : Nat} {e : TypeId} {vs : List Value}
theorem ownV_set (h : w.ownsRow base e 1 (.slice (some ⟨g, 0, none⟩) n cap) n vs) {j : Nat} (hj : j < n) (u : Value) : (w.setCell ⟨g, j, none⟩ u).ownsRow base e 1 (.slice (some ⟨g, 0, none⟩) n cap) n (vs.set j u) := by
  refine ⟨by rw [List.length_set]; exact h.1, ?_⟩
  rcases h.2 with ⟨h1, h2⟩ | ⟨g', cap', cur, hv, hb, hg, h1, h2, h3, h4⟩
  · omega
  · injection hv with e1 e2 e3
    injection e1 with e1
    injection e1 with e1
    subst e1; subst e3
    refine .inr ⟨g, cap, cur.setIfInBounds j u, rfl, hb, ?_, h1, h2, by simp [h3], ?_⟩
    · have := heap_setCell_same w g j cur e u hg
      simpa using this
    · rw [← h4]
      simp [Array.toList_setIfInBounds, List.take_set]
theorem ownV_cut (h : w.ownsRow base e 1 (.slice (some ⟨g, 0, none⟩) n cap) n vs) {k : Nat} (hk : k ≤ n) : w.ownsRow base e 1 (.slice (some ⟨g, 0, none⟩) k cap) k (vs.take k) := by
  have hl := h.1
  refine ⟨by rw [List.length_take]; omega, ?_⟩
  rcases h.2 with ⟨h1, h2⟩ | ⟨g', cap', cur, hv, hb, hg, h1, h2, h3, h4⟩
  · cases h1
  · injection hv with e1 e2 e3
    injection e1 with e1
    injection e1 with e1
    subst e1; subst e3
    refine .inr ⟨g, cap, cur, rfl, hb, hg, by omega, h2, h3, ?_⟩
    rw [← h4, List.take_take]
    congr 1
    omega
theorem ownV_cell (h : w.ownsRow base e 1 (.slice (some ⟨g, 0, none⟩) n cap) n vs) {j : Nat} (hj : j < n) : w.cell? ⟨g, j, none⟩ = some (vs.getD j undef) ∧ w.frozen? ⟨g, j, none⟩ = false := by
  refine ⟨?_, h.frozenAt j⟩
  rw [h.cellAt j (by omega)]
  have : j < vs.length := by have := h.1; omega
  simp [List.getD_eq_getElem?_getD, this]
end
theorem ownV_sets {base g cap n : Nat} {e : TypeId} : ∀ (us : List Value) (o : Nat) (w : World) (vs : List Value), w.ownsRow base e 1 (.slice (some ⟨g, 0, none⟩) n cap) n vs → o + us.length ≤ n →
    ∃ vs', (w.setCells g o us).ownsRow base e 1 (.slice (some ⟨g, 0, none⟩) n cap) n vs' ∧ vs'.take o = vs.take o
  | [], o, w, vs, h, _ => ⟨vs, h, rfl⟩
  | u :: us, o, w, vs, h, hl => by
    have hl' : o + 1 + us.length ≤ n := by simp at hl; omega
    obtain ⟨vs', h1, h2⟩ := ownV_sets us (o + 1) _ _ (ownV_set h (j := o) (by omega) u) hl'
    refine ⟨vs', h1, ?_⟩
    have h3 : (vs'.take (o + 1)).take o = ((vs.set o u).take (o + 1)).take o := by rw [h2]
    rw [List.take_take, List.take_take, Nat.min_eq_left (by omega)] at h3
    rw [h3, List.take_set_of_le (by omega)]
theorem keeps_setCells {l : List Nat} {a : World} {g : Nat} (hg : g ∈ l) : ∀ (us : List Value) (o : Nat) (w : World), Keeps l a w → Keeps l a (w.setCells g o us)
  | [], _, _, h => h
  | u :: us, o, w, h => keeps_setCells hg us (o + 1) _ (h.setCell (p := ⟨g, o, none⟩) hg u)
theorem OwL.of_own {α : Type} {R : Rp α} {d : α} {ty : TypeId} {base : Nat} {w : World} {l : List Nat} {v : Value} {xs : List α} {us : List Value} (h : w.ownsRow base ty 1 v xs.length us) (hr : ∀ i, i < xs.length → R w (v.ownBlock.toList ++ l) (us.getD i undef) (xs.getD i d)) : OwL R d ty base w l v xs :=
  ⟨us, by have := h.1; omega, h, hr⟩

/-- Which of the first m elements stay: the first, and those that are not equal to the one before. -/
def keptI {α : Type} (eq : α → α → Bool) (d : α) (xs : List α) (m : Nat) : List Nat := (List.range m).filter fun j => decide (j = 0) || !(eq (xs.getD j d) (xs.getD (j - 1) d))
def compL {α : Type} (eq : α → α → Bool) (d : α) (xs : List α) : List α := (keptI eq d xs xs.length).map fun j => xs.getD j d
section
variable {α : Type} {eq : α → α → Bool} {d : α} {xs : List α}
theorem keptI_keep {m : Nat} (h : m = 0 ∨ eq (xs.getD m d) (xs.getD (m - 1) d) = false) : keptI eq d xs (m + 1) = keptI eq d xs m ++ [m] := by
  unfold keptI
  rw [List.range_succ, List.filter_append]
  congr 1
  rcases h with h | h
  · exact List.filter_cons_of_pos (by simp [h])
  · exact List.filter_cons_of_pos (by rw [h]; simp)
theorem keptI_skip {m : Nat} (h0 : m ≠ 0) (h : eq (xs.getD m d) (xs.getD (m - 1) d) = true) : keptI eq d xs (m + 1) = keptI eq d xs m := by
  unfold keptI
  rw [List.range_succ, List.filter_append, List.filter_cons_of_neg (by rw [h]; simp [h0])]
  simp
theorem keptI_all {m : Nat} (h : ∀ j, 1 ≤ j → j < m → eq (xs.getD j d) (xs.getD (j - 1) d) = false) : keptI eq d xs m = List.range m := by
  unfold keptI
  rw [List.filter_eq_self]
  intro j hj
  have := List.mem_range.1 hj
  by_cases h0 : j = 0
  · simp [h0]
  · rw [h j (by omega) this]; simp
theorem keptI_lt {m j : Nat} (h : j ∈ keptI eq d xs m) : j < m := List.mem_range.1 (List.mem_filter.1 h).1
theorem compL_all (h : ∀ j, 1 ≤ j → j < xs.length → eq (xs.getD j d) (xs.getD (j - 1) d) = false) : compL eq d xs = xs := by
  unfold compL
  rw [keptI_all h]
  refine List.ext_getElem (by simp) fun i h1 h2 => ?_
  simp [List.getD_eq_getElem?_getD, h2]
end

/-- The second loop of CompactFunc. -/
structure CmI {α : Type} (eq : α → α → Bool) (d : α) (xs : List α) (us : List Value) (m k : Nat) (vs : List Value) : Prop where
  len : (keptI eq d xs m).length = k
  lt : k < m
  low : ∀ j, j < k → vs.getD j undef = us.getD ((keptI eq d xs m).getD j 0) undef
  high : ∀ j, k ≤ j → vs.getD j undef = us.getD j undef
section
variable {α : Type} {eq : α → α → Bool} {d : α} {xs : List α} {us vs : List Value} {m k : Nat}
theorem CmI.start {m : Nat} (h1 : 1 ≤ m) (h : ∀ j, 1 ≤ j → j < m → eq (xs.getD j d) (xs.getD (j - 1) d) = false) (he : eq (xs.getD m d) (xs.getD (m - 1) d) = true) : CmI eq d xs us (m + 1) m us := by
  have e : keptI eq d xs (m + 1) = List.range m := by rw [keptI_skip (by omega) he, keptI_all h]
  refine ⟨by rw [e]; simp, by omega, fun j hj => ?_, fun _ _ => rfl⟩
  rw [e]
  congr 1
  simp [List.getD_eq_getElem?_getD, hj]
theorem CmI.skip (h : CmI eq d xs us m k vs) (he : eq (xs.getD m d) (xs.getD (m - 1) d) = true) : CmI eq d xs us (m + 1) k vs := by
  have e := keptI_skip (eq := eq) (d := d) (xs := xs) (m := m) (by have := h.lt; omega) he
  exact ⟨by rw [e]; exact h.len, by have := h.lt; omega, by rw [e]; exact h.low, h.high⟩
theorem CmI.keep (h : CmI eq d xs us m k vs) (hv : k < vs.length) (he : eq (xs.getD m d) (xs.getD (m - 1) d) = false) : CmI eq d xs us (m + 1) (k + 1) (vs.set k (us.getD m undef)) := by
  have e := keptI_keep (eq := eq) (d := d) (xs := xs) (m := m) (.inr he)
  have hg : ∀ j u, (vs.set k u).getD j undef = if j = k then u else vs.getD j undef := fun j u => by
    rw [List.getD_eq_getElem?_getD, List.getElem?_set]
    by_cases hj : k = j
    · subst hj; simp [hv]
    · rw [if_neg hj, if_neg (fun h => hj h.symm), List.getD_eq_getElem?_getD]
  refine ⟨by rw [e]; simp [h.len], by have := h.lt; omega, fun j hj => ?_, fun j hj => ?_⟩
  · rw [hg, e]
    by_cases hj' : j = k
    · subst hj'
      rw [if_pos rfl, getD_append_right' _ _ _ (by rw [h.len]; exact Nat.le_refl _), h.len, Nat.sub_self]; rfl
    · rw [if_neg hj', getD_append_left' _ _ _ (by rw [h.len]; omega)]
      exact h.low j (by omega)
  · rw [hg, if_neg (by omega)]
    exact h.high j (by omega)
end
end Go.Proofs.Ytdhadnnakcdfiaa
