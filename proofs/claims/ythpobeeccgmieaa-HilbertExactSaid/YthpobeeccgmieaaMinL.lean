/- The minimal solutions with a bounded sum, found one after the other by ascending sums (in plain Lean). -/
import Derived.Test.YthpobeeccgmieaaHilL
namespace Go.Proofs.Ythpobeeccgmieaa
set_option linter.unusedVariables false

theorem vle_cons {a b : Int} {x y : List Int} : VLe (a :: x) (b :: y) ↔ a ≤ b ∧ VLe x y := by
  constructor
  · rintro ⟨h1, h2⟩
    refine ⟨by have := h2 0 (by simp); simpa using this, by simpa using h1, fun i hi => ?_⟩
    have := h2 (i + 1) (by simp; omega)
    simpa using this
  · rintro ⟨h, h1, h2⟩
    refine ⟨by simp [h1], fun i hi => ?_⟩
    cases i with
    | zero => simpa using h
    | succ i =>
      have := h2 i (by simpa using hi)
      simpa using this
theorem vle_isum : ∀ {x y : List Int}, VLe x y → isum x ≤ isum y ∧ (isum x = isum y → x = y)
  | [], [], _ => ⟨by simp [isum], fun _ => rfl⟩
  | [], _ :: _, h => absurd h.len (by simp)
  | _ :: _, [], h => absurd h.len (by simp)
  | a :: x, b :: y, h => by
    obtain ⟨h1, h2⟩ := vle_cons.1 h
    obtain ⟨i1, i2⟩ := vle_isum h2
    rw [isum_cons, isum_cons]
    refine ⟨by omega, fun e => ?_⟩
    have : a = b := by omega
    rw [this, i2 (by omega)]

/-- A solution with a sum in a range. -/
structure Solv (P : List Int → Bool) (k lo hi : Nat) (x : List Int) : Prop where
  len : x.length = k + 1
  pos : ∀ y ∈ x, 0 ≤ y
  ge : (lo : Int) ≤ isum x
  le : isum x ≤ (hi : Int)
  sol : P x = true
def MinS (P : List Int → Bool) (k lo hi : Nat) (x : List Int) : Prop := Solv P k lo hi x ∧ ∀ y, Solv P k lo hi y → VLe y x → y = x

def minAdd (P : List Int → Bool) (out : List (List Int)) (v : List Int) : List (List Int) := if P v && !out.any (fun x => vleB x v) then out ++ [v] else out
theorem minAdd_no {P : List Int → Bool} {out : List (List Int)} {v : List Int} (h : P v = false) : minAdd P out v = out := by simp [minAdd, h]
theorem minAdd_any {P : List Int → Bool} {out : List (List Int)} {v : List Int} (h : out.any (fun x => vleB x v) = true) : minAdd P out v = out := by simp [minAdd, h]
theorem minAdd_yes {P : List Int → Bool} {out : List (List Int)} {v : List Int} (h : P v = true) (h' : out.any (fun x => vleB x v) = false) : minAdd P out v = out ++ [v] := by simp only [minAdd, h, h']; rfl
structure MinI (P : List Int → Bool) (pre out : List (List Int)) : Prop where
  sub : ∀ x ∈ out, x ∈ pre ∧ P x = true
  cov : ∀ v ∈ pre, P v = true → ∃ x ∈ out, VLe x v
  min : ∀ x ∈ out, ∀ y ∈ pre, P y = true → VLe y x → y = x
  nodup : out.Nodup
  len : out.length ≤ pre.length
theorem MinI.nil {P : List Int → Bool} : MinI P [] [] := ⟨by simp, by simp, by simp, List.nodup_nil, Nat.le_refl _⟩
theorem MinI.step {P : List Int → Bool} {pre out : List (List Int)} {v : List Int} (h : MinI P pre out) (hs : ∀ y ∈ pre, isum y ≤ isum v) (hp : ∀ y ∈ pre, VVal y) (hv : VVal v) : MinI P (pre ++ [v]) (minAdd P out v) := by
  unfold minAdd
  by_cases hP : P v = true
  · by_cases hA : out.any (fun x => vleB x v) = true
    · rw [hA]
      simp only [Bool.not_true, Bool.and_false, Bool.false_eq_true, if_false]
      rw [List.any_eq_true] at hA
      obtain ⟨x, hx, hxv⟩ := hA
      refine ⟨fun x hx => ⟨List.mem_append.2 (.inl (h.sub x hx).1), (h.sub x hx).2⟩, fun u hu hPu => ?_, fun x' hx' y hy hPy hle => ?_, h.nodup, by rw [List.length_append]; have := h.len; omega⟩
      · rcases List.mem_append.1 hu with hu | hu
        · exact h.cov u hu hPu
        · rw [List.mem_singleton.1 hu]; exact ⟨x, hx, (vleB_true.1 hxv).2.2⟩
      · rcases List.mem_append.1 hy with hy | hy
        · exact h.min x' hx' y hy hPy hle
        · obtain rfl := List.mem_singleton.1 hy
          obtain ⟨i1, i2⟩ := vle_isum hle
          have := hs x' (h.sub x' hx').1
          exact i2 (by omega)
    · rw [Bool.not_eq_true] at hA
      rw [hP, hA]
      simp only [Bool.not_false, Bool.and_true, if_true]
      rw [← Bool.not_eq_true, List.any_eq_true] at hA
      have hno : ∀ y ∈ pre, P y = true → ¬ VLe y v := fun y hy hPy hle => by
        obtain ⟨x, hx, hxy⟩ := h.cov y hy hPy
        exact hA ⟨x, hx, vleB_true.2 ⟨hp x (h.sub x hx).1, hv, hxy.trans hle⟩⟩
      refine ⟨fun x hx => ?_, fun u hu hPu => ?_, fun x hx y hy hPy hle => ?_, ?_, by rw [List.length_append, List.length_append]; have := h.len; simp; omega⟩
      · rcases List.mem_append.1 hx with hx | hx
        · exact ⟨List.mem_append.2 (.inl (h.sub x hx).1), (h.sub x hx).2⟩
        · rw [List.mem_singleton.1 hx]; exact ⟨by simp, hP⟩
      · rcases List.mem_append.1 hu with hu | hu
        · obtain ⟨x, hx, hxu⟩ := h.cov u hu hPu
          exact ⟨x, List.mem_append.2 (.inl hx), hxu⟩
        · rw [List.mem_singleton.1 hu]; exact ⟨v, by simp, VLe.refl v⟩
      · rcases List.mem_append.1 hx with hx1 | hx1
        · rcases List.mem_append.1 hy with hy | hy
          · exact h.min x hx1 y hy hPy hle
          · have hxs := hs x (h.sub x hx1).1
            obtain rfl := List.mem_singleton.1 hy
            obtain ⟨i1, i2⟩ := vle_isum hle
            exact i2 (by omega)
        · obtain rfl := List.mem_singleton.1 hx1
          rcases List.mem_append.1 hy with hy | hy
          · exact absurd hle (hno y hy hPy)
          · exact List.mem_singleton.1 hy
      · rw [List.nodup_append]
        refine ⟨h.nodup, by simp, fun a ha b hb e => ?_⟩
        rw [List.mem_singleton.1 hb] at e
        subst e
        exact hno a (h.sub a ha).1 (h.sub a ha).2 (VLe.refl a)
  · rw [Bool.not_eq_true] at hP
    rw [hP]
    simp only [Bool.false_and, Bool.false_eq_true, if_false]
    refine ⟨fun x hx => ⟨List.mem_append.2 (.inl (h.sub x hx).1), (h.sub x hx).2⟩, fun u hu hPu => ?_, fun x' hx' y hy hPy hle => ?_, h.nodup, by rw [List.length_append]; have := h.len; omega⟩
    · rcases List.mem_append.1 hu with hu | hu
      · exact h.cov u hu hPu
      · rw [List.mem_singleton.1 hu, hP] at hPu; cases hPu
    · rcases List.mem_append.1 hy with hy | hy
      · exact h.min x' hx' y hy hPy hle
      · rw [List.mem_singleton.1 hy, hP] at hPy; cases hPy

/-- All vectors with sums from lo on, m sums. -/
def cands (k lo m : Nat) : List (List Int) := (List.range m).flatMap fun i => vecs k (lo + i)
theorem cands_succ (k lo m : Nat) : cands k lo (m + 1) = cands k lo m ++ vecs k (lo + m) := by simp [cands, List.range_succ]
theorem mem_cands {k lo m : Nat} {v : List Int} : v ∈ cands k lo m ↔ v.length = k + 1 ∧ (∀ x ∈ v, 0 ≤ x) ∧ (lo : Int) ≤ isum v ∧ isum v < (lo : Int) + m := by
  simp only [cands, List.mem_flatMap, List.mem_range, mem_vecs]
  constructor
  · rintro ⟨i, hi, h1, h2, h3⟩
    exact ⟨h1, h2, by omega, by omega⟩
  · rintro ⟨h1, h2, h3, h4⟩
    exact ⟨(isum v - lo).toNat, by omega, h1, h2, by omega⟩
theorem isum_ge {x : List Int} (h : ∀ y ∈ x, 0 ≤ y) : 0 ≤ isum x ∧ ∀ y ∈ x, y ≤ isum x := by
  induction x with
  | nil => exact ⟨by simp [isum], by simp⟩
  | cons a t ih =>
    obtain ⟨i1, i2⟩ := ih fun y hy => h y (by simp [hy])
    have ha := h a (by simp)
    rw [isum_cons]
    refine ⟨by omega, fun y hy => ?_⟩
    rcases List.mem_cons.1 hy with e | hy
    · omega
    · have := i2 y hy; omega
theorem vval_small {x : List Int} {M : Int} (h1 : x.length ≤ 6) (h2 : ∀ y ∈ x, 0 ≤ y) (h3 : isum x ≤ M) (hM : M ≤ 1048576) : VFin x :=
  ⟨h1, fun y hy => ⟨h2 y hy, by have := (isum_ge h2).2 y hy; omega⟩⟩
theorem vupto_len (k s : Nat) (hs : ∀ r, r ≤ 10 → (vecs k r).length ≤ 11 ^ k) (h : s ≤ 10) : ∀ x, (vupto k s x).length ≤ x * 11 ^ k
  | 0 => by simp [vupto_zero]
  | x + 1 => by
    rw [vupto_succ, List.length_append, List.length_map, Nat.succ_mul]
    have := vupto_len k s hs h x
    have := hs (s - x) (by omega)
    omega
theorem vecs_len : ∀ (k s : Nat), s ≤ 10 → (vecs k s).length ≤ 11 ^ k
  | 0, s, _ => by simp [vecs]
  | k + 1, s, h => by
    rw [← vupto_all]
    have := vupto_len k s (fun r hr => vecs_len k r hr) h (s + 1)
    refine Nat.le_trans this ?_
    rw [Nat.pow_succ, Nat.mul_comm]
    exact Nat.mul_le_mul_left _ (by omega)
theorem pow11 {k : Nat} (h : k ≤ 5) : 11 ^ k ≤ 161051 := by
  have : k = 0 ∨ k = 1 ∨ k = 2 ∨ k = 3 ∨ k = 4 ∨ k = 5 := by omega
  rcases this with rfl | rfl | rfl | rfl | rfl | rfl <;> decide
theorem cands_len (k lo : Nat) (hk : k ≤ 5) : ∀ m, lo + m ≤ 11 → (cands k lo m).length ≤ m * 161051
  | 0, _ => by simp [cands]
  | m + 1, h => by
    rw [cands_succ, List.length_append]
    have := cands_len k lo hk m (by omega)
    have := vecs_len k (lo + m) (by omega)
    have := pow11 hk
    omega
/-- A part of all candidates. -/
structure CPre (k : Nat) (pre : List (List Int)) (s : Int) : Prop where
  val : ∀ y ∈ pre, VFin y
  le : ∀ y ∈ pre, isum y ≤ s
theorem cpre_of {k lo m : Nat} {pre : List (List Int)} {M : Int} (hk : k ≤ 5) (hM : M ≤ 10) (h : ∀ y ∈ pre, y.length = k + 1 ∧ (∀ x ∈ y, 0 ≤ x) ∧ isum y ≤ M) : CPre k pre M :=
  ⟨fun y hy => vval_small (M := M) (by have := (h y hy).1; omega) (h y hy).2.1 (h y hy).2.2 (by omega), fun y hy => (h y hy).2.2⟩
theorem fold_take {P : List Int → Bool} {k lo i s : Nat} {out : List (List Int)} (hk : k ≤ 5) (hs : s = lo + i) (h10 : s ≤ 10) (h : MinI P (cands k lo i) out) : ∀ j, j ≤ (vecs k s).length → MinI P (cands k lo i ++ (vecs k s).take j) (((vecs k s).take j).foldl (minAdd P) out)
  | 0, _ => by simpa using h
  | j + 1, hj => by
    have ih := fold_take hk hs h10 h j (by omega)
    rw [List.take_succ_eq_append_getElem (by omega), List.foldl_append, ← List.append_assoc]
    have hm : ∀ y ∈ vecs k s, y.length = k + 1 ∧ (∀ x ∈ y, 0 ≤ x) ∧ isum y = (s : Int) := fun y hy => mem_vecs.1 hy
    have hc : ∀ y ∈ cands k lo i, y.length = k + 1 ∧ (∀ x ∈ y, 0 ≤ x) ∧ isum y < (s : Int) := fun y hy => by
      obtain ⟨a, b, c, d⟩ := mem_cands.1 hy
      exact ⟨a, b, by omega⟩
    have hv := hm _ (List.getElem_mem (l := vecs k s) (by omega : j < (vecs k s).length))
    refine MinI.step ih (fun y hy => ?_) (fun y hy => ?_) (vval_small (M := 10) (by omega) hv.2.1 (by omega) (by omega)).val
    · rcases List.mem_append.1 hy with hy | hy
      · have := (hc y hy).2.2; omega
      · have := (hm y (List.mem_of_mem_take hy)).2.2; omega
    · rcases List.mem_append.1 hy with hy | hy
      · obtain ⟨a, b, c⟩ := hc y hy
        exact (vval_small (M := 10) (by omega) b (by omega) (by omega)).val
      · obtain ⟨a, b, c⟩ := hm y (List.mem_of_mem_take hy)
        exact (vval_small (M := 10) (by omega) b (by omega) (by omega)).val
theorem fold_min {P : List Int → Bool} {k lo i s : Nat} {out pre rest : List (List Int)} (hk : k ≤ 5) (hs : s = lo + i) (h10 : s ≤ 10) (h : MinI P (cands k lo i) out) (he : vecs k s = pre ++ rest) : MinI P (cands k lo i ++ pre) (pre.foldl (minAdd P) out) := by
  have := fold_take hk hs h10 h pre.length (by rw [he, List.length_append]; omega)
  rw [he] at this
  simpa using this
theorem min_of {P : List Int → Bool} {k lo hi : Nat} {out : List (List Int)} (h : MinI P (cands k lo (hi + 1 - lo)) out) (x : List Int) : x ∈ out ↔ MinS P k lo hi x := by
  have key : ∀ y, y ∈ cands k lo (hi + 1 - lo) ∧ P y = true ↔ Solv P k lo hi y := fun y => by
    rw [mem_cands]
    constructor
    · rintro ⟨⟨h1, h2, h3, h4⟩, h5⟩
      have := (isum_ge h2).1
      exact ⟨h1, h2, h3, by omega, h5⟩
    · rintro ⟨h1, h2, h3, h4, h5⟩
      exact ⟨⟨h1, h2, h3, by omega⟩, h5⟩
  constructor
  · intro hx
    refine ⟨(key x).1 (h.sub x hx), fun y hy hle => ?_⟩
    obtain ⟨h1, h2⟩ := (key y).2 hy
    exact h.min x hx y h1 h2 hle
  · rintro ⟨hx, hm⟩
    obtain ⟨h1, h2⟩ := (key x).2 hx
    obtain ⟨y, hy, hle⟩ := h.cov x h1 h2
    rw [← hm y ((key y).1 (h.sub y hy)) hle]
    exact hy
end Go.Proofs.Ythpobeeccgmieaa
