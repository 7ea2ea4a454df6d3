/- Plain law: tables in which rows have got their columns. No program in sight. -/
import Derived.Test.YtpnkaicbcbimaaaGreedy
namespace Go.Proofs.Ytpnkaicbcbimaaa.Kuhn

variable {E : Nat → Nat → Bool} {m n : Nat}

/-- The table when the rows before i have got their columns. -/
def FixT (E : Nat → Nat → Bool) (g : Nat → Nat) (i : Nat) : Nat → Nat → Bool := fun r q =>
  if r < i then E r q && decide (q = g r) else E r q && !usedOf g i q

theorem FixT.zero (g : Nat → Nat) : FixT E g 0 = E := by
  funext r q
  simp [FixT, usedOf]

theorem FixT.row {g : Nat → Nat} {i q : Nat} : FixT E g i i q = (E i q && !usedOf g i q) := by simp [FixT]

/-- One more row gets its column. -/
theorem FixT.succ {g : Nat → Nat} {i c : Nat} (hg : ∀ r, r < i → g r ≠ c) (r q : Nat) :
    FixT E (upd g i c) (i + 1) r q = (FixT E g i r q && (decide (r = i) == decide (q = c))) := by
  unfold FixT
  rw [usedOf_succ]
  by_cases h1 : r < i
  · rw [if_pos (by omega), if_pos h1, upd_ne _ _ (by omega)]
    have h2 : decide (r = i) = false := by simp; omega
    rw [h2]
    by_cases h3 : q = g r
    · have h4 : decide (q = c) = false := by simp; rw [h3]; exact hg r h1
      simp [h4]
    · simp [h3]
  · by_cases h2 : r = i
    · subst h2
      rw [if_pos (by omega), if_neg h1, upd_same]
      by_cases h3 : q = c
      · subst h3
        have h4 : usedOf g r q = false := decide_eq_false fun ⟨k, hk, e⟩ => hg k hk e
        simp [h4]
      · simp [h3]
    · rw [if_neg (by omega), if_neg h1]
      have h5 : decide (r = i) = false := by simp [h2]
      rw [h5]
      by_cases h3 : q = c
      · subst h3; rw [upd_same]; simp
      · rw [upd_ne _ _ h3]; simp [h3]

theorem Sat.all {g : Nat → Nat} {i : Nat} (hi : i ≤ n) (hg : ∀ r, r < i → g r < m ∧ E r (g r) = true ∧ ∀ k, k < r → g k ≠ g r) :
    Sat (FixT E g i) m (fun _ => false) 0 n ↔ Sat E m (usedOf g i) i n := by
  constructor
  · rintro ⟨M, hM, hl⟩
    obtain ⟨a, b, d⟩ := hM
    refine ⟨M.filter fun p => decide (i ≤ p.1), ⟨a.sublist (List.filter_sublist.map _), b.sublist (List.filter_sublist.map _), fun p hp => ?_⟩, ?_⟩
    · obtain ⟨hp, hi⟩ := List.mem_filter.1 hp
      obtain ⟨_, c2, c3, c4, _⟩ := d p hp
      have hi : i ≤ p.1 := by simpa using hi
      unfold FixT at c4
      rw [if_neg (by omega)] at c4
      simp only [Bool.and_eq_true, Bool.not_eq_true'] at c4
      exact ⟨hi, c2, c3, c4.1, c4.2⟩
    · have e := List.countP_eq_countP_filter_add M (fun _ => true) (fun p => decide (i ≤ p.1))
      simp only [List.countP_true] at e
      have h1 : (M.filter fun p => !decide (i ≤ p.1)).length ≤ i := by
        rw [← List.length_map (f := (·.1))]
        have := nodup_le (l' := List.range i) (a.sublist (List.Sublist.map (·.1) (List.filter_sublist (p := fun p => !decide (i ≤ p.1)) (l := M)))) fun x hx => by
          obtain ⟨p, hp, rfl⟩ := List.mem_map.1 hx
          have := (List.mem_filter.1 hp).2
          simp only [Bool.not_eq_true', decide_eq_false_iff_not] at this
          exact List.mem_range.2 (by omega)
        simpa using this
      have h2 : (M.filter fun p => decide (i ≤ p.1)).length ≤ n - i := by
        rw [← length_filter_ge i n, ← List.length_map (f := (·.1))]
        refine nodup_le (a.sublist (List.filter_sublist.map _)) fun x hx => ?_
        obtain ⟨p, hp, rfl⟩ := List.mem_map.1 hx
        obtain ⟨hp, hi⟩ := List.mem_filter.1 hp
        exact List.mem_filter.2 ⟨List.mem_range.2 (d p hp).2.1, hi⟩
      omega
  · rintro ⟨M, ⟨a, b, d⟩, hl⟩
    refine ⟨((List.range i).map fun r => (r, g r)) ++ M, ⟨?_, ?_, fun p hp => ?_⟩, by simp; omega⟩
    · rw [List.map_append, List.map_map, List.nodup_append]
      refine ⟨nodup_map List.nodup_range fun x _ y _ e => e, a, fun x hx y hy e => ?_⟩
      subst e
      obtain ⟨r, hr, e⟩ := List.mem_map.1 hx
      obtain ⟨p, hp, e2⟩ := List.mem_map.1 hy
      have := List.mem_range.1 hr
      have := (d p hp).1
      have e : r = x := e
      omega
    · rw [List.map_append, List.map_map, List.nodup_append]
      refine ⟨nodup_map List.nodup_range fun x hx y hy e => ?_, b, fun x hx y hy e => ?_⟩
      · have e : g x = g y := e
        have hx := List.mem_range.1 hx
        have hy := List.mem_range.1 hy
        rcases Nat.lt_trichotomy x y with h | h | h
        · exact absurd e ((hg y hy).2.2 x h)
        · exact h
        · exact absurd e.symm ((hg x hx).2.2 y h)
      · subst e
        obtain ⟨r, hr, e⟩ := List.mem_map.1 hx
        obtain ⟨p, hp, e2⟩ := List.mem_map.1 hy
        have h5 := (d p hp).2.2.2.2
        have e : g r = x := e
        rw [e2, ← e] at h5
        exact absurd ⟨r, List.mem_range.1 hr, rfl⟩ (of_decide_eq_false h5)
    · rcases List.mem_append.1 hp with hp | hp
      · obtain ⟨r, hr, rfl⟩ := List.mem_map.1 hp
        have hr := List.mem_range.1 hr
        obtain ⟨c1, c2, _⟩ := hg r hr
        refine ⟨Nat.zero_le _, by show r < n; omega, c1, ?_, rfl⟩
        show FixT E g i r (g r) = true
        simp [FixT, hr, c2]
      · obtain ⟨c1, c2, c3, c4, c5⟩ := d p hp
        refine ⟨Nat.zero_le _, c2, c3, ?_, rfl⟩
        unfold FixT
        rw [if_neg (by omega), c4, c5]; rfl

end Go.Proofs.Ytpnkaicbcbimaaa.Kuhn
