/- Plain law: vectors, their order, and the vectors of a list that are needed. -/
import Derived.Test.YtnmkinaokjekjaaGreatAscL
namespace Go.Proofs.YtnmkinaokjekjaaGreat
set_option linter.unusedVariables false
open Go.RowKit

def VEl (x : Int) : Prop := (0 ≤ x ∧ x ≤ 1048576) ∨ x = 1099511627776
instance (x : Int) : Decidable (VEl x) := by unfold VEl; exact inferInstance
structure VVal (v : List Int) : Prop where
  few : v.length ≤ 6
  el : ∀ x ∈ v, VEl x
structure VFin (v : List Int) : Prop where
  few : v.length ≤ 6
  el : ∀ x ∈ v, 0 ≤ x ∧ x ≤ 1048576
theorem VFin.val {v : List Int} (h : VFin v) : VVal v := ⟨h.few, fun x hx => .inl (h.el x hx)⟩
def vvB (v : List Int) : Bool := decide (v.length ≤ 6) && v.all fun x => decide (VEl x)
def vfB (v : List Int) : Bool := decide (v.length ≤ 6) && v.all fun x => decide (0 ≤ x ∧ x ≤ 1048576)
theorem vvB_true {v : List Int} : vvB v = true ↔ VVal v := by
  unfold vvB
  rw [Bool.and_eq_true, decide_eq_true_iff, List.all_eq_true]
  exact ⟨fun h => ⟨h.1, fun x hx => by have := h.2 x hx; simpa using this⟩, fun h => ⟨h.1, fun x hx => by simpa using h.2 x hx⟩⟩
theorem vfB_true {v : List Int} : vfB v = true ↔ VFin v := by
  unfold vfB
  rw [Bool.and_eq_true, decide_eq_true_iff, List.all_eq_true]
  exact ⟨fun h => ⟨h.1, fun x hx => by have := h.2 x hx; simpa using this⟩, fun h => ⟨h.1, fun x hx => by simpa using h.2 x hx⟩⟩

/-- Element by element, as long. -/
structure VLe (a b : List Int) : Prop where
  len : a.length = b.length
  le : ∀ i, i < a.length → a.getD i 0 ≤ b.getD i 0
theorem VLe.refl (a : List Int) : VLe a a := ⟨rfl, fun _ _ => Int.le_refl _⟩
theorem VLe.trans {a b c : List Int} (h : VLe a b) (k : VLe b c) : VLe a c := ⟨h.len.trans k.len, fun i hi => Int.le_trans (h.le i hi) (k.le i (by rw [← h.len]; exact hi))⟩
theorem VLe.antisymm {a b : List Int} (h : VLe a b) (k : VLe b a) : a = b := eq_of_getD h.len fun i hi => Int.le_antisymm (h.le i hi) (k.le i (by rw [← h.len]; exact hi))
def vltB (a b : List Int) : Bool := decide (a.length = b.length) && (List.range a.length).all fun i => decide (a.getD i 0 ≤ b.getD i 0)
theorem vltB_true {a b : List Int} : vltB a b = true ↔ VLe a b := by
  unfold vltB
  rw [Bool.and_eq_true, decide_eq_true_iff, List.all_eq_true]
  exact ⟨fun h => ⟨h.1, fun i hi => by have := h.2 i (List.mem_range.2 hi); simpa using this⟩, fun h => ⟨h.1, fun i hi => by have := h.2 i (List.mem_range.1 hi); simpa using this⟩⟩
def vleB (a b : List Int) : Bool := vvB a && vvB b && vltB a b
theorem vleB_true {a b : List Int} : vleB a b = true ↔ VVal a ∧ VVal b ∧ VLe a b := by
  unfold vleB
  rw [Bool.and_eq_true, Bool.and_eq_true, vvB_true, vvB_true, vltB_true, and_assoc]

/-- A relation that is an order on the vectors of a list. -/
structure OrdOn (cov : List Int → List Int → Bool) (l : List (List Int)) : Prop where
  refl : ∀ x ∈ l, cov x x = true
  trans : ∀ x ∈ l, ∀ y ∈ l, ∀ z ∈ l, cov x y = true → cov y z = true → cov x z = true
  anti : ∀ x ∈ l, ∀ y ∈ l, cov x y = true → cov y x = true → x = y
theorem OrdOn.sub {cov : List Int → List Int → Bool} {l l' : List (List Int)} (h : OrdOn cov l) (hs : ∀ x ∈ l', x ∈ l) : OrdOn cov l' :=
  ⟨fun x hx => h.refl x (hs x hx), fun x hx y hy z hz => h.trans x (hs x hx) y (hs y hy) z (hs z hz), fun x hx y hy => h.anti x (hs x hx) y (hs y hy)⟩

def redS (cov : List Int → List Int → Bool) (out : List (List Int)) (v : List Int) : List (List Int) := if out.any (fun x => cov x v) then out else out.filter (fun x => !cov v x) ++ [v]
def redF (cov : List Int → List Int → Bool) (l : List (List Int)) : List (List Int) := l.foldl (redS cov) []
def MaxOf (cov : List Int → List Int → Bool) (l : List (List Int)) (x : List Int) : Prop := x ∈ l ∧ ∀ y ∈ l, cov y x = true → y = x

/-- What holds while a list is gone through. -/
structure RedI (cov : List Int → List Int → Bool) (l out : List (List Int)) : Prop where
  sub : ∀ x ∈ out, x ∈ l
  cover : ∀ v ∈ l, ∃ x ∈ out, cov x v = true
  anti : ∀ x ∈ out, ∀ y ∈ out, cov x y = true → x = y
  nodup : out.Nodup
  len : out.length ≤ l.length
theorem RedI.nil {cov : List Int → List Int → Bool} : RedI cov [] [] := ⟨by simp, by simp, by simp, List.nodup_nil, Nat.le_refl _⟩
theorem RedI.step {cov : List Int → List Int → Bool} {l out : List (List Int)} {v : List Int} (ho : OrdOn cov (l ++ [v])) (h : RedI cov l out) : RedI cov (l ++ [v]) (redS cov out v) := by
  have hin : ∀ x ∈ out, x ∈ l ++ [v] := fun x hx => by simp [h.sub x hx]
  have hv : v ∈ l ++ [v] := by simp
  unfold redS
  by_cases hc : out.any (fun x => cov x v) = true
  · rw [if_pos hc]
    obtain ⟨x, hx, hxv⟩ := List.any_eq_true.1 hc
    refine ⟨hin, fun u hu => ?_, h.anti, h.nodup, by have := h.len; simp; omega⟩
    rcases List.mem_append.1 hu with hu | hu
    · exact h.cover u hu
    · rw [List.mem_singleton.1 hu]; exact ⟨x, hx, hxv⟩
  · rw [if_neg hc]
    have hnc : ∀ x ∈ out, ¬ cov x v = true := fun x hx e => hc (List.any_eq_true.2 ⟨x, hx, e⟩)
    refine ⟨fun x hx => ?_, fun u hu => ?_, fun x hx y hy e => ?_, ?_, ?_⟩
    · rcases List.mem_append.1 hx with hx | hx
      · exact hin x (List.mem_filter.1 hx).1
      · rw [List.mem_singleton.1 hx]; exact hv
    · rcases List.mem_append.1 hu with hu | hu
      · obtain ⟨x, hx, hxu⟩ := h.cover u hu
        by_cases hvx : cov v x = true
        · exact ⟨v, by simp, ho.trans v hv x (hin x hx) u (by simp [hu]) hvx hxu⟩
        · exact ⟨x, List.mem_append.2 (.inl (List.mem_filter.2 ⟨hx, by simpa using hvx⟩)), hxu⟩
      · rw [List.mem_singleton.1 hu]; exact ⟨v, by simp, ho.refl v hv⟩
    · rcases List.mem_append.1 hx with hx | hx
      · have hx' := List.mem_filter.1 hx
        rcases List.mem_append.1 hy with hy | hy
        · exact h.anti x hx'.1 y (List.mem_filter.1 hy).1 e
        · rw [List.mem_singleton.1 hy] at e; exact absurd e (hnc x hx'.1)
      · rw [List.mem_singleton.1 hx] at e ⊢
        rcases List.mem_append.1 hy with hy | hy
        · have := (List.mem_filter.1 hy).2; rw [e] at this; simp at this
        · exact (List.mem_singleton.1 hy).symm
    · rw [List.nodup_append]
      refine ⟨h.nodup.filter _, List.nodup_cons.2 ⟨by simp, List.nodup_nil⟩, fun x hx y hy e => ?_⟩
      rw [List.mem_singleton.1 hy] at e
      subst e
      exact hnc x (List.mem_filter.1 hx).1 (ho.refl x hv)
    · have := List.length_filter_le (fun x => !cov v x) out
      have := h.len
      simp only [List.length_append, List.length_singleton]; omega
theorem redF_snoc (cov : List Int → List Int → Bool) (l : List (List Int)) (v : List Int) : redF cov (l ++ [v]) = redS cov (redF cov l) v := by simp [redF, List.foldl_append]
theorem redI_take {cov : List Int → List Int → Bool} {l : List (List Int)} (ho : OrdOn cov l) : ∀ {k : Nat}, k ≤ l.length → RedI cov (l.take k) (redF cov (l.take k))
  | 0, _ => by simpa [redF] using RedI.nil
  | k + 1, hk => by
    have e : l.take (k + 1) = l.take k ++ [l.getD k []] := by
      rw [List.take_succ_eq_append_getElem (by omega)]
      simp [List.getD_eq_getElem?_getD, show k < l.length by omega]
    rw [e, redF_snoc]
    refine RedI.step (ho.sub fun x hx => ?_) (redI_take ho (by omega))
    rw [← e] at hx
    exact List.mem_of_mem_take hx
theorem redF_inv {cov : List Int → List Int → Bool} {l : List (List Int)} (ho : OrdOn cov l) : RedI cov l (redF cov l) := by
  have := redI_take ho (Nat.le_refl l.length)
  rwa [List.take_length] at this
theorem redF_mem {cov : List Int → List Int → Bool} {l : List (List Int)} (ho : OrdOn cov l) {x : List Int} : x ∈ redF cov l ↔ MaxOf cov l x := by
  have h := redF_inv ho
  constructor
  · intro hx
    refine ⟨h.sub x hx, fun y hy e => ?_⟩
    obtain ⟨z, hz, hzy⟩ := h.cover y hy
    have hzx := ho.trans z (h.sub z hz) y hy x (h.sub x hx) hzy e
    have := h.anti z hz x hx hzx
    subst this
    exact ho.anti y hy z (h.sub z hz) e hzy
  · rintro ⟨hx, hm⟩
    obtain ⟨z, hz, hzx⟩ := h.cover x hx
    rw [← hm z (h.sub z hz) hzx]; exact hz
theorem redF_len {cov : List Int → List Int → Bool} {l : List (List Int)} (ho : OrdOn cov l) : (redF cov l).length ≤ l.length := (redF_inv ho).len

theorem asc_of_sorted {xs : List (List Int)} (h : xs.Pairwise fun a b => ¬ cmpL b a < 0) (hn : xs.Nodup) : Asc xs := by
  refine (h.and hn).imp fun {a b} hab => ?_
  rcases cmpL_total hab.1 with e | e
  · exact absurd e.symm hab.2
  · exact e
end Go.Proofs.YtnmkinaokjekjaaGreat
