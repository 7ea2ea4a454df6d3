/- Plain law: the words of lesser and lesser ranks. -/
import Derived.Test.YtmjnicikikgncaaPrioV
namespace Go.Proofs.Ytmjnicikikgncaa
set_option linter.unusedVariables false

/-- Of one letter: the word of it alone, and it before the words of lesser ranks. -/
def fallX (x : Int) (l : List (List Int)) : List (List Int) := [x] :: l.map (x :: ·)
def fallL (r : List Int) : Nat → Int → List (List Int)
  | 0, _ => []
  | k + 1, below => (List.range r.length).flatMap fun x => if r.getD x 0 < below then fallX (x : Int) (fallL r k (r.getD x 0)) else []
def fallP (r : List Int) (k : Nat) (below : Int) (i : Nat) : List (List Int) := (List.range i).flatMap fun x => if r.getD x 0 < below then fallX (x : Int) (fallL r k (r.getD x 0)) else []
theorem fallP_all (r : List Int) (k : Nat) (below : Int) : fallL r (k + 1) below = fallP r k below r.length := rfl
theorem fallP_yes {r : List Int} {k : Nat} {below : Int} {i : Nat} (h : r.getD i 0 < below) : fallP r k below (i + 1) = fallP r k below i ++ fallX (i : Int) (fallL r k (r.getD i 0)) := by
  unfold fallP; rw [List.range_succ, List.flatMap_append]; simp only [List.flatMap_cons, List.flatMap_nil, List.append_nil]; rw [if_pos h]
theorem fallP_no {r : List Int} {k : Nat} {below : Int} {i : Nat} (h : ¬ r.getD i 0 < below) : fallP r k below (i + 1) = fallP r k below i := by
  unfold fallP; rw [List.range_succ, List.flatMap_append]; simp only [List.flatMap_cons, List.flatMap_nil, List.append_nil]; rw [if_neg h, List.append_nil]

theorem flatMap_len {α β : Type} {f : α → List β} {M : Nat} : ∀ {l : List α}, (∀ x ∈ l, (f x).length ≤ M) → (l.flatMap f).length ≤ l.length * M
  | [], _ => by simp
  | x :: l, h => by
    rw [List.flatMap_cons, List.length_append, List.length_cons, Nat.add_mul]
    have h1 := h x (by simp)
    have h2 := flatMap_len (l := l) fun y hy => h y (by simp [hy])
    omega
def fallN : Nat → Nat
  | 0 => 0
  | k + 1 => 6 * (1 + fallN k)
theorem fallX_len (x : Int) (l : List (List Int)) : (fallX x l).length = 1 + l.length := by simp [fallX, Nat.add_comm]
theorem fallN_mono : ∀ k, fallN k ≤ fallN (k + 1)
  | 0 => by simp [fallN]
  | k + 1 => by have := fallN_mono k; simp only [fallN] at *; omega
theorem fallN_le {k : Nat} (h : k ≤ 7) : fallN k ≤ 335922 := by
  have : ∀ j, k ≤ j → fallN k ≤ fallN j := fun j => by
    induction j with
    | zero => intro h; have : k = 0 := by omega
              rw [this]; exact Nat.le_refl _
    | succ j ih =>
      intro h
      by_cases e : k = j + 1
      · rw [e]; exact Nat.le_refl _
      · exact Nat.le_trans (ih (by omega)) (fallN_mono j)
  exact this 7 h
section
variable {r : List Int}
theorem fallL_len (hr : r.length ≤ 6) : ∀ (k : Nat) (below : Int), (fallL r k below).length ≤ fallN k
  | 0, _ => by simp [fallL]
  | k + 1, below => by
    unfold fallL
    refine Nat.le_trans (flatMap_len (M := 1 + fallN k) fun x hx => ?_) ?_
    · split
      · rw [fallX_len]; have := fallL_len hr k (r.getD x 0); omega
      · simp
    · rw [List.length_range]; exact Nat.mul_le_mul_right _ hr
theorem fallP_len (hr : r.length ≤ 6) {k i : Nat} {below : Int} (hi : i ≤ 6) : (fallP r k below i).length ≤ fallN (k + 1) := by
  unfold fallP
  refine Nat.le_trans (flatMap_len (M := 1 + fallN k) fun x hx => ?_) ?_
  · split
    · rw [fallX_len]; have := fallL_len hr k (r.getD x 0); omega
    · simp
  · rw [List.length_range]; exact Nat.mul_le_mul_right _ hi

/-- A word of falling ranks, not empty, below a rank. -/
def FallW (r : List Int) (below : Int) (w : List Int) : Prop := w ≠ [] ∧ (∀ x ∈ w, 0 ≤ x ∧ x < r.length) ∧ Falls (rkF r) w ∧ ∀ x ∈ w, rkF r x < below
theorem fallX_mem {x : Int} {l : List (List Int)} {w : List Int} : w ∈ fallX x l ↔ w = [x] ∨ ∃ u ∈ l, w = x :: u := by
  simp only [fallX, List.mem_cons, List.mem_map]
  constructor
  · rintro (h | ⟨u, h, rfl⟩)
    · exact .inl h
    · exact .inr ⟨u, h, rfl⟩
  · rintro (h | ⟨u, h, rfl⟩)
    · exact .inl h
    · exact .inr ⟨u, h, rfl⟩
theorem fallL_mem (hr : ∀ x ∈ r, 0 ≤ x) : ∀ (k : Nat) (below : Int), below ≤ k → ∀ w, w ∈ fallL r k below ↔ FallW r below w
  | 0, below, hb, w => by
    refine ⟨fun h => (by simp [fallL] at h), fun ⟨h1, h2, h3, h4⟩ => ?_⟩
    cases w with
    | nil => exact absurd rfl h1
    | cons x w =>
      have h5 := h4 x (by simp)
      have h6 := h2 x (by simp)
      have := hr (rkF r x) (by unfold rkF; exact getD_mem (by omega))
      omega
  | k + 1, below, hb, w => by
    unfold fallL
    rw [List.mem_flatMap]
    constructor
    · rintro ⟨x, hx, hw⟩
      have hx := List.mem_range.1 hx
      split at hw
      · rename_i hlt
        have hrk : rkF r (x : Int) = r.getD x 0 := rfl
        have hrange : (0 : Int) ≤ x ∧ (x : Int) < r.length := by omega
        rcases fallX_mem.1 hw with rfl | ⟨u, hu, rfl⟩
        · exact ⟨by simp, fun y hy => by rw [List.mem_singleton.1 hy]; exact hrange, List.pairwise_singleton _ _, fun y hy => by rw [List.mem_singleton.1 hy, hrk]; exact hlt⟩
        · obtain ⟨h1, h2, h3, h4⟩ := (fallL_mem hr k _ (by omega) u).1 hu
          refine ⟨by simp, fun y hy => ?_, List.pairwise_cons.2 ⟨fun y hy => ?_, h3⟩, fun y hy => ?_⟩
          · rcases List.mem_cons.1 hy with e | e
            · rw [e]; exact hrange
            · exact h2 y e
          · rw [hrk]; exact h4 y hy
          · rcases List.mem_cons.1 hy with e | e
            · rw [e, hrk]; exact hlt
            · have := h4 y e; omega
      · cases hw
    · rintro ⟨h1, h2, h3, h4⟩
      cases w with
      | nil => exact absurd rfl h1
      | cons x w =>
        have hx := h2 x (by simp)
        have hlt := h4 x (by simp)
        have h3' := List.pairwise_cons.1 h3
        refine ⟨x.toNat, List.mem_range.2 (by omega), ?_⟩
        rw [if_pos (show r.getD x.toNat 0 < below from hlt), fallX_mem]
        have ex : ((x.toNat : Nat) : Int) = x := by omega
        rw [ex]
        by_cases hw : w = []
        · exact .inl (by rw [hw])
        · refine .inr ⟨w, (fallL_mem hr k _ ?_ w).2 ⟨hw, fun y hy => h2 y (by simp [hy]), h3'.2, fun y hy => h3'.1 y hy⟩, rfl⟩
          have : r.getD x.toNat 0 < below := hlt
          omega
theorem fallL_nodup (hr : ∀ x ∈ r, 0 ≤ x) : ∀ (k : Nat) (below : Int), below ≤ k → (fallL r k below).Nodup
  | 0, _, _ => by simp [fallL]
  | k + 1, below, hb => by
    have hP : ∀ i, (fallP r k below i).Nodup ∧ ∀ w ∈ fallP r k below i, ∃ x u, w = x :: u ∧ 0 ≤ x ∧ x < (i : Int) := fun i => by
      induction i with
      | zero => exact ⟨by simp [fallP], fun w h => by simp [fallP] at h⟩
      | succ i ih =>
        by_cases hlt : r.getD i 0 < below
        · rw [fallP_yes hlt]
          have hnd := fallL_nodup hr k (r.getD i 0) (by omega)
          have hne : ∀ u ∈ fallL r k (r.getD i 0), u ≠ [] := fun u hu => ((fallL_mem hr k _ (by omega) u).1 hu).1
          have hX : (fallX (i : Int) (fallL r k (r.getD i 0))).Nodup := by
            unfold fallX
            refine List.nodup_cons.2 ⟨fun h => ?_, ?_⟩
            · obtain ⟨u, hu, e⟩ := List.mem_map.1 h
              injection e with _ e
              exact hne u hu e
            · exact List.Pairwise.map _ (fun a b hab e => hab (by injection e)) hnd
          refine ⟨List.nodup_append.2 ⟨ih.1, hX, fun a ha b hb e => ?_⟩, fun w hw => ?_⟩
          · subst e
            obtain ⟨x, u, rfl, _, h2⟩ := ih.2 a ha
            rcases fallX_mem.1 hb with e | ⟨v, _, e⟩
            · injection e with e; omega
            · injection e with e; omega
          · rcases List.mem_append.1 hw with h | h
            · obtain ⟨x, u, e, h1, h2⟩ := ih.2 w h
              exact ⟨x, u, e, h1, by omega⟩
            · rcases fallX_mem.1 h with e | ⟨v, _, e⟩
              · exact ⟨i, [], e, by omega, by omega⟩
              · exact ⟨i, v, e, by omega, by omega⟩
        · rw [fallP_no hlt]
          refine ⟨ih.1, fun w hw => ?_⟩
          obtain ⟨x, u, e, h1, h2⟩ := ih.2 w hw
          exact ⟨x, u, e, h1, by omega⟩
    exact (hP r.length).1
theorem fallL_words (hr : ∀ x ∈ r, 0 ≤ x) : ∀ (k : Nat) (below : Int), ∀ w ∈ fallL r k below, w.length ≤ k
  | 0, _, w, h => by simp [fallL] at h
  | k + 1, below, w, h => by
    unfold fallL at h
    obtain ⟨x, _, hw⟩ := List.mem_flatMap.1 h
    split at hw
    · rcases fallX_mem.1 hw with rfl | ⟨u, hu, rfl⟩
      · simp
      · have := fallL_words hr k _ u hu; simp; omega
    · cases hw
end
end Go.Proofs.Ytmjnicikikgncaa
