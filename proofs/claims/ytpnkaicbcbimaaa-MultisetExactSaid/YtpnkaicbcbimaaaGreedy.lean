/- Plain law: the least matching, column by column. No program in sight. -/
import Derived.Test.YtpnkaicbcbimaaaKuhn
namespace Go.Proofs.Ytpnkaicbcbimaaa.Kuhn

variable {E : Nat → Nat → Bool} {m : Nat}

/-- All rows lo .. hi - 1 can be matched. -/
def Sat (E : Nat → Nat → Bool) (m : Nat) (used : Nat → Bool) (lo hi : Nat) : Prop := ∃ M, Mat E m used lo hi M ∧ M.length = hi - lo

theorem length_filter_ge (lo hi : Nat) : ((List.range hi).filter fun r => decide (lo ≤ r)).length = hi - lo := by
  induction hi with
  | zero => simp
  | succ hi ih =>
    rw [List.range_succ, List.filter_append, List.length_append, ih]
    by_cases h : lo ≤ hi
    · simp [h]; omega
    · simp [h]; omega

theorem Mat.le {used : Nat → Bool} {lo hi : Nat} {M : List (Nat × Nat)} (h : Mat E m used lo hi M) : M.length ≤ hi - lo := by
  rw [← length_filter_ge lo hi, ← List.length_map (f := (·.1))]
  refine nodup_le h.1 fun x hx => ?_
  obtain ⟨p, hp, rfl⟩ := List.mem_map.1 hx
  obtain ⟨a, b, _⟩ := h.2.2 p hp
  exact List.mem_filter.2 ⟨List.mem_range.2 b, by simpa using a⟩

theorem IsMax.sat {used : Nat → Bool} {lo hi n : Nat} (h : IsMax E m used lo hi n) : n = hi - lo ↔ Sat E m used lo hi := by
  obtain ⟨⟨M, hM, rfl⟩, hc⟩ := h
  constructor
  · exact fun e => ⟨M, hM, e⟩
  · rintro ⟨M', hM', e⟩
    have := hc.bound hM'
    have := hM.le
    omega

theorem IsMax.le {used : Nat → Bool} {lo hi n : Nat} (h : IsMax E m used lo hi n) : n ≤ hi - lo := by
  obtain ⟨⟨M, hM, rfl⟩, _⟩ := h
  exact hM.le

theorem Sat.last {used : Nat → Bool} {n : Nat} : Sat E m used n n := ⟨[], ⟨by simp, by simp, by simp⟩, by simp⟩

/-- A row has a column in each matching of all rows. -/
theorem Sat.row {used : Nat → Bool} {lo hi : Nat} {M : List (Nat × Nat)} (h : Mat E m used lo hi M) (hl : M.length = hi - lo) {i : Nat} (h1 : lo ≤ i) (h2 : i < hi) : ∃ c, (i, c) ∈ M := by
  rcases Classical.em (∃ c, (i, c) ∈ M) with h0 | h0
  · exact h0
  exfalso
  have : M.length ≤ (((List.range hi).filter fun r => decide (lo ≤ r)).erase i).length := by
    rw [← List.length_map (f := (·.1))]
    refine nodup_le h.1 fun x hx => ?_
    obtain ⟨p, hp, rfl⟩ := List.mem_map.1 hx
    obtain ⟨a, b, _⟩ := h.2.2 p hp
    refine (List.mem_erase_of_ne (fun e => h0 ⟨p.2, by rw [← e]; exact hp⟩)).2 (List.mem_filter.2 ⟨List.mem_range.2 b, by simpa using a⟩)
  rw [List.length_erase_of_mem (List.mem_filter.2 ⟨List.mem_range.2 h2, by simpa using h1⟩), length_filter_ge] at this
  omega

theorem mem_inj1 {M : List (Nat × Nat)} (h : (M.map (·.1)).Nodup) {r c c' : Nat} (h1 : (r, c) ∈ M) (h2 : (r, c') ∈ M) : c = c' := by
  induction M with
  | nil => cases h1
  | cons p M ih =>
    rw [List.map_cons, List.nodup_cons] at h
    rcases List.mem_cons.1 h1 with e1 | m1 <;> rcases List.mem_cons.1 h2 with e2 | m2
    · rw [← e1] at e2; injection e2 with _ e; exact e.symm
    · exact absurd (List.mem_map.2 ⟨_, m2, by rw [← e1]⟩) h.1
    · exact absurd (List.mem_map.2 ⟨_, m1, by rw [← e2]⟩) h.1
    · exact ih h.2 m1 m2
theorem mem_inj2 {M : List (Nat × Nat)} (h : (M.map (·.2)).Nodup) {r r' c : Nat} (h1 : (r, c) ∈ M) (h2 : (r', c) ∈ M) : r = r' := by
  induction M with
  | nil => cases h1
  | cons p M ih =>
    rw [List.map_cons, List.nodup_cons] at h
    rcases List.mem_cons.1 h1 with e1 | m1 <;> rcases List.mem_cons.1 h2 with e2 | m2
    · rw [← e1] at e2; injection e2 with e _; exact e.symm
    · exact absurd (List.mem_map.2 ⟨_, m2, by rw [← e1]⟩) h.1
    · exact absurd (List.mem_map.2 ⟨_, m1, by rw [← e2]⟩) h.1
    · exact ih h.2 m1 m2

theorem Sat.step {used : Nat → Bool} {i n : Nat} (h : Sat E m used i n) (hi : i < n) : ∃ c, c < m ∧ E i c = true ∧ used c = false ∧ Sat E m (upd used c true) (i + 1) n := by
  obtain ⟨M, hM, hl⟩ := h
  obtain ⟨c, hc⟩ := Sat.row hM hl (Nat.le_refl _) hi
  obtain ⟨_, _, a3, a4, a5⟩ := hM.2.2 _ hc
  refine ⟨c, a3, a4, a5, M.erase (i, c), ⟨hM.1.sublist (List.erase_sublist.map _), hM.2.1.sublist (List.erase_sublist.map _), fun p hp => ?_⟩, ?_⟩
  · have hpM := List.mem_of_mem_erase hp
    obtain ⟨b1, b2, b3, b4, b5⟩ := hM.2.2 p hpM
    have hnd : M.Nodup := List.Pairwise.imp (fun {a b} hab e => hab (by rw [e])) (List.pairwise_map.1 hM.1)
    have hne : p ≠ (i, c) := fun e => by subst e; exact (List.Nodup.not_mem_erase hnd) hp
    have h1 : p.1 ≠ i := fun e => hne (by
      have : (i, p.2) ∈ M := by rw [← e]; exact hpM
      rw [← mem_inj1 hM.1 this hc, ← e])
    have h2 : p.2 ≠ c := fun e => hne (by
      have : (p.1, c) ∈ M := by rw [← e]; exact hpM
      rw [← mem_inj2 hM.2.1 this hc, ← e])
    exact ⟨by omega, b2, b3, b4, by rw [upd_ne _ _ h2]; exact b5⟩
  · rw [List.length_erase_of_mem hc]; omega

theorem Sat.cons {used : Nat → Bool} {i n c : Nat} (hi : i < n) (h1 : c < m) (h2 : E i c = true) (h3 : used c = false) (h : Sat E m (upd used c true) (i + 1) n) : Sat E m used i n := by
  obtain ⟨M, ⟨a, b, d⟩, hl⟩ := h
  refine ⟨(i, c) :: M, ⟨?_, ?_, ?_⟩, by simp; omega⟩
  · rw [List.map_cons, List.nodup_cons]
    refine ⟨fun hm => ?_, a⟩
    obtain ⟨p, hp, e⟩ := List.mem_map.1 hm
    have := (d p hp).1
    simp at e; omega
  · rw [List.map_cons, List.nodup_cons]
    refine ⟨fun hm => ?_, b⟩
    obtain ⟨p, hp, e⟩ := List.mem_map.1 hm
    have := (d p hp).2.2.2.2
    simp at e
    rw [e, upd_same] at this; cases this
  · intro p hp
    rcases List.mem_cons.1 hp with rfl | hp
    · exact ⟨Nat.le_refl _, hi, h1, h2, h3⟩
    · obtain ⟨b1, b2, b3, b4, b5⟩ := d p hp
      refine ⟨by omega, b2, b3, b4, ?_⟩
      by_cases e : p.2 = c
      · rw [e, upd_same] at b5; cases b5
      · rw [upd_ne _ _ e] at b5; exact b5

/-- The columns that rows before i have got. -/
def usedOf (g : Nat → Nat) (i : Nat) : Nat → Bool := fun c => decide (∃ k, k < i ∧ g k = c)
theorem usedOf_zero (g : Nat → Nat) : usedOf g 0 = fun _ => false := by
  funext c; simp [usedOf]
theorem usedOf_succ (g : Nat → Nat) (i j : Nat) : usedOf (upd g i j) (i + 1) = upd (usedOf g i) j true := by
  funext c
  by_cases e : c = j
  · subst e; rw [upd_same]; exact decide_eq_true ⟨i, by omega, upd_same _ _ _⟩
  · rw [upd_ne _ _ e]
    refine decide_eq_decide.2 ⟨fun ⟨k, hk, hg⟩ => ?_, fun ⟨k, hk, hg⟩ => ⟨k, by omega, by rw [upd_ne _ _ (by omega)]; exact hg⟩⟩
    by_cases ek : k = i
    · subst ek; rw [upd_same] at hg; exact absurd hg.symm e
    · exact ⟨k, by omega, by rw [upd_ne _ _ ek] at hg; exact hg⟩
theorem usedOf_congr {g g' : Nat → Nat} {i : Nat} (h : ∀ k, k < i → g k = g' k) : usedOf g i = usedOf g' i := by
  funext c
  exact decide_eq_decide.2 ⟨fun ⟨k, hk, hg⟩ => ⟨k, hk, by rw [← h k hk]; exact hg⟩, fun ⟨k, hk, hg⟩ => ⟨k, hk, by rw [h k hk]; exact hg⟩⟩

/-- The column that row i gets: the least that leaves a matching. -/
def Pick (E : Nat → Nat → Bool) (m n : Nat) (g : Nat → Nat) (i : Nat) : Prop :=
  g i < m ∧ E i (g i) = true ∧ usedOf g i (g i) = false ∧ ∀ j, j < g i → E i j = true → usedOf g i j = false → ¬ Sat E m (upd (usedOf g i) j true) (i + 1) n

theorem Pick.congr {n i : Nat} {g g' : Nat → Nat} (h : ∀ k, k ≤ i → g k = g' k) (p : Pick E m n g i) : Pick E m n g' i := by
  unfold Pick at *
  rw [← usedOf_congr (fun k hk => h k (by omega)), ← h i (Nat.le_refl _)]
  exact p

/-- No matching is less than the picked one. -/
theorem least {n : Nat} {g z : Nat → Nat} (hg : ∀ i, i < n → Pick E m n g i) (hz : ∀ i, i < n → z i < m ∧ E i (z i) = true ∧ ∀ k, k < i → z k ≠ z i) {k : Nat} (hk : k < n) (he : ∀ i, i < k → z i = g i) : ¬ z k < g k := by
  intro hlt
  obtain ⟨p1, p2, p3, p4⟩ := hg k hk
  obtain ⟨z1, z2, z3⟩ := hz k hk
  refine p4 (z k) hlt z2 (decide_eq_false fun ⟨i, hi, e⟩ => z3 i hi (by rw [he i hi]; exact e)) ?_
  have hmem : ∀ r, r ∈ (List.range n).filter (fun r => decide (k + 1 ≤ r)) → k + 1 ≤ r ∧ r < n := fun r hr => by
    obtain ⟨a, b⟩ := List.mem_filter.1 hr
    exact ⟨by simpa using b, List.mem_range.1 a⟩
  have hnd : ((List.range n).filter fun r => decide (k + 1 ≤ r)).Nodup := List.nodup_range.sublist List.filter_sublist
  refine ⟨((List.range n).filter fun r => decide (k + 1 ≤ r)).map fun r => (r, z r), ⟨?_, ?_, fun p hp => ?_⟩, by rw [List.length_map, length_filter_ge]⟩
  · rw [List.map_map]; exact nodup_map hnd fun x _ y _ e => e
  · rw [List.map_map]
    refine nodup_map hnd fun x hx y hy e => ?_
    have e' : z x = z y := e
    rcases Nat.lt_trichotomy x y with h | h | h
    · exact absurd e' ((hz y (hmem y hy).2).2.2 x h)
    · exact h
    · exact absurd e'.symm ((hz x (hmem x hx).2).2.2 y h)
  · obtain ⟨r, hr, rfl⟩ := List.mem_map.1 hp
    obtain ⟨a1, a2⟩ := hmem r hr
    obtain ⟨b1, b2, b3⟩ := hz r a2
    refine ⟨a1, a2, b1, b2, ?_⟩
    have h1 : z r ≠ z k := fun e => b3 k (by omega) e.symm
    rw [upd_ne _ _ h1]
    exact decide_eq_false fun ⟨i, hi, e⟩ => b3 i (by omega) (by rw [he i hi]; exact e)

/-- A list of columns that proves a matching. -/
theorem sat_of {n : Nat} {z : Nat → Nat} (hz : ∀ i, i < n → z i < m ∧ E i (z i) = true ∧ ∀ k, k < i → z k ≠ z i) : Sat E m (fun _ => false) 0 n := by
  refine ⟨(List.range n).map fun r => (r, z r), ⟨?_, ?_, fun p hp => ?_⟩, by simp⟩
  · rw [List.map_map]; exact nodup_map List.nodup_range fun x _ y _ e => e
  · rw [List.map_map]
    refine nodup_map List.nodup_range fun x hx y hy e => ?_
    have e' : z x = z y := e
    have hx := List.mem_range.1 hx
    have hy := List.mem_range.1 hy
    rcases Nat.lt_trichotomy x y with h | h | h
    · exact absurd e' ((hz y hy).2.2 x h)
    · exact h
    · exact absurd e'.symm ((hz x hx).2.2 y h)
  · obtain ⟨r, hr, rfl⟩ := List.mem_map.1 hp
    have hr := List.mem_range.1 hr
    exact ⟨Nat.zero_le _, hr, (hz r hr).1, (hz r hr).2.1, rfl⟩

theorem Pick.proves {n : Nat} {g : Nat → Nat} (hg : ∀ i, i < n → Pick E m n g i) : ∀ i, i < n → g i < m ∧ E i (g i) = true ∧ ∀ k, k < i → g k ≠ g i := fun i hi =>
  ⟨(hg i hi).1, (hg i hi).2.1, fun k hk e => by
    have := (hg i hi).2.2.1
    exact absurd ⟨k, hk, e⟩ (of_decide_eq_false this)⟩

/-- Two picked matchings are one. -/
theorem Pick.unique {n : Nat} {g g' : Nat → Nat} (hg : ∀ i, i < n → Pick E m n g i) (hg' : ∀ i, i < n → Pick E m n g' i) : ∀ i, i < n → g i = g' i := by
  intro i
  induction i using Nat.strongRecOn with
  | _ i ih =>
    intro hi
    have h1 := least hg (Pick.proves hg') hi (fun k hk => (ih k hk (by omega)).symm)
    have h2 := least hg' (Pick.proves hg) hi (fun k hk => ih k hk (by omega))
    omega

end Go.Proofs.Ytpnkaicbcbimaaa.Kuhn
