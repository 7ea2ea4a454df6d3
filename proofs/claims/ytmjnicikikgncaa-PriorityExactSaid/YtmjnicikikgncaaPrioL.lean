/- Plain law: words in which a letter can be dropped if a letter of at least its rank follows. No program in sight. -/
import Derived.Test.YtmjnicikikgncaaAscL
namespace Go.Proofs.Ytmjnicikikgncaa
set_option linter.unusedVariables false

/-- The one word is below the other: its letters stand there in order, the last one last, and what stands before each, behind the one before, has at most its rank. -/
def PLe (rk : Int → Int) : List Int → List Int → Prop
  | [], b => b = []
  | x :: a, b => ∃ pre rest, b = pre ++ x :: rest ∧ (∀ y ∈ pre, rk y ≤ rk x) ∧ PLe rk a rest

section
variable {rk : Int → Int}
theorem PLe.refl : ∀ a : List Int, PLe rk a a
  | [] => rfl
  | x :: a => ⟨[], a, rfl, by simp, PLe.refl a⟩
theorem PLe.append : ∀ {a b x y : List Int}, PLe rk a b → PLe rk x y → PLe rk (a ++ x) (b ++ y)
  | [], b, x, y, h, h2 => by
    have : b = [] := h
    subst this; simpa using h2
  | z :: a, b, x, y, ⟨pre, rest, e, h1, h2⟩, h3 => ⟨pre, rest ++ y, by rw [e]; simp, h1, PLe.append h2 h3⟩
theorem PLe.sub : ∀ {a b : List Int}, PLe rk a b → a.Sublist b
  | [], b, h => by simp
  | z :: a, b, ⟨pre, rest, e, h1, h2⟩ => by
    rw [e]
    exact ((PLe.sub h2).cons_cons z).trans (List.sublist_append_right _ _)
theorem PLe.anti {a b : List Int} (h1 : PLe rk a b) (h2 : PLe rk b a) : a = b := h1.sub.eq_of_length (Nat.le_antisymm h1.sub.length_le h2.sub.length_le)
theorem PLe.nil_right {a : List Int} (h : PLe rk a []) : a = [] := List.eq_nil_of_sublist_nil h.sub
theorem PLe.split : ∀ {u v c : List Int}, PLe rk (u ++ v) c → ∃ c1 c2, c = c1 ++ c2 ∧ PLe rk u c1 ∧ PLe rk v c2
  | [], v, c, h => ⟨[], c, rfl, rfl, h⟩
  | x :: u, v, c, ⟨pre, rest, e, h1, h2⟩ => by
    obtain ⟨c1, c2, e2, g1, g2⟩ := PLe.split (u := u) (v := v) h2
    exact ⟨pre ++ x :: c1, c2, by rw [e, e2]; simp, ⟨pre, c1, rfl, h1, g1⟩, g2⟩
theorem PLe.bound {k : Int} : ∀ {u c : List Int}, PLe rk u c → (∀ y ∈ u, rk y ≤ k) → ∀ y ∈ c, rk y ≤ k
  | [], c, h, _, y, hy => by
    have : c = [] := h
    subst this; cases hy
  | x :: u, c, ⟨pre, rest, e, h1, h2⟩, hu, y, hy => by
    rw [e] at hy
    have hx := hu x (by simp)
    rcases List.mem_append.1 hy with h | h
    · have := h1 y h; omega
    · rcases List.mem_cons.1 h with h | h
      · rw [h]; exact hx
      · exact PLe.bound h2 (fun y hy => hu y (by simp [hy])) y h
theorem PLe.trans : ∀ {a b c : List Int}, PLe rk a b → PLe rk b c → PLe rk a c
  | [], b, c, h, h2 => by
    have : b = [] := h
    subst this; exact h2
  | x :: a, b, c, ⟨pre, rest, e, h1, h2⟩, h3 => by
    rw [e] at h3
    obtain ⟨c1, c2, ec, g1, pre2, rest2, e2, g3, g4⟩ := PLe.split h3
    refine ⟨c1 ++ pre2, rest2, by rw [ec, e2]; simp, fun y hy => ?_, PLe.trans h2 g4⟩
    rcases List.mem_append.1 hy with h | h
    · exact PLe.bound g1 h1 y h
    · exact g3 y h
theorem PLe.last : ∀ {a b : List Int}, PLe rk a b → a ≠ [] → b ≠ [] ∧ b.getD (b.length - 1) 0 = a.getD (a.length - 1) 0
  | [], b, h, hne => absurd rfl hne
  | x :: a, b, ⟨pre, rest, e, h1, h2⟩, _ => by
    subst e
    refine ⟨by simp, ?_⟩
    by_cases ha : a = []
    · subst ha
      have : rest = [] := h2
      subst this
      rw [getD_append_right' _ _ _ (by simp)]
      simp
    · obtain ⟨h3, h4⟩ := PLe.last h2 ha
      have hl : 0 < rest.length := List.length_pos_iff.2 h3
      have hl2 : 0 < a.length := List.length_pos_iff.2 ha
      rw [getD_append_right' _ _ _ (by rw [List.length_append, List.length_cons]; omega)]
      have e1 : (pre ++ x :: rest).length - 1 - pre.length = (rest.length - 1) + 1 := by simp; omega
      have e2 : (x :: a).length - 1 = (a.length - 1) + 1 := by simp; omega
      rw [e1, e2, List.getD_cons_succ, List.getD_cons_succ]; exact h4

def dropAtI (a : List Int) (i : Nat) : List Int := a.take i ++ a.drop (i + 1)
/-- One letter, which a letter of at least its rank follows, is dropped. -/
def DropOf (rk : Int → Int) (b x : List Int) : Prop := ∃ i, i + 1 < b.length ∧ rk (b.getD i 0) ≤ rk (b.getD (i + 1) 0) ∧ x = dropAtI b i
theorem dropAtI_parts (u : List Int) (y z : Int) (v : List Int) : dropAtI (u ++ y :: z :: v) u.length = u ++ z :: v := by
  unfold dropAtI
  rw [List.take_left', show u.length + 1 = (u ++ [y]).length by simp, show u ++ y :: z :: v = (u ++ [y]) ++ z :: v by simp, List.drop_left']
  · rfl
  · simp
theorem dropOf_parts {b x : List Int} : DropOf rk b x ↔ ∃ u y z v, b = u ++ y :: z :: v ∧ rk y ≤ rk z ∧ x = u ++ z :: v := by
  constructor
  · rintro ⟨i, hi, hr, rfl⟩
    have e : b = b.take i ++ b.getD i 0 :: b.getD (i + 1) 0 :: b.drop (i + 2) := by
      have h1 : b.drop i = b.getD i 0 :: b.drop (i + 1) := by rw [List.drop_eq_getElem_cons (by omega)]; simp [List.getD_eq_getElem?_getD, show i < b.length by omega]
      have h2 : b.drop (i + 1) = b.getD (i + 1) 0 :: b.drop (i + 2) := by rw [List.drop_eq_getElem_cons hi]; simp [List.getD_eq_getElem?_getD, hi]
      rw [← h2, ← h1, List.take_append_drop]
    refine ⟨_, _, _, _, e, hr, ?_⟩
    unfold dropAtI
    congr 1
    rw [List.drop_eq_getElem_cons hi]; simp [List.getD_eq_getElem?_getD, hi]
  · rintro ⟨u, y, z, v, rfl, hr, rfl⟩
    refine ⟨u.length, by simp, ?_, (dropAtI_parts u y z v).symm⟩
    rw [getD_append_right' _ _ _ (Nat.le_refl _), getD_append_right' _ _ _ (by omega), Nat.sub_self, show u.length + 1 - u.length = 1 by omega]
    simpa using hr
theorem DropOf.ple {b x : List Int} (h : DropOf rk b x) : PLe rk x b := by
  obtain ⟨u, y, z, v, rfl, hr, rfl⟩ := dropOf_parts.1 h
  exact PLe.append (PLe.refl u) ⟨[y], v, rfl, by simpa using hr, PLe.refl v⟩
theorem DropOf.len {b x : List Int} (h : DropOf rk b x) : x.length + 1 = b.length := by
  obtain ⟨u, y, z, v, rfl, hr, rfl⟩ := dropOf_parts.1 h
  simp; omega
theorem DropOf.under {b x w : List Int} (h : DropOf rk b x) : DropOf rk (w ++ b) (w ++ x) := by
  obtain ⟨u, y, z, v, rfl, hr, rfl⟩ := dropOf_parts.1 h
  exact dropOf_parts.2 ⟨w ++ u, y, z, v, by simp, hr, by simp⟩
/-- What is below, and not equal, is below a drop. -/
theorem PLe.step : ∀ {a b : List Int}, PLe rk a b → a ≠ b → ∃ x, DropOf rk b x ∧ PLe rk a x
  | [], b, h, hne => absurd (show [] = b from (show b = [] from h).symm) hne
  | x :: a, b, ⟨pre, rest, e, h1, h2⟩, hne => by
    subst e
    by_cases hp : pre = []
    · subst hp
      have hne2 : a ≠ rest := fun e => hne (by rw [e]; rfl)
      obtain ⟨u, hu, h3⟩ := PLe.step h2 hne2
      exact ⟨x :: u, hu.under (w := [x]), [], u, rfl, by simp, h3⟩
    · refine ⟨pre.dropLast ++ x :: rest, dropOf_parts.2 ⟨pre.dropLast, pre.getLast hp, x, rest, ?_, h1 _ (List.getLast_mem hp), rfl⟩, pre.dropLast, rest, rfl, fun y hy => h1 y ((List.dropLast_sublist pre).subset hy), h2⟩
      have : pre = pre.dropLast ++ [pre.getLast hp] := (List.dropLast_concat_getLast hp).symm
      calc pre ++ x :: rest = (pre.dropLast ++ [pre.getLast hp]) ++ x :: rest := by rw [← this]
        _ = _ := by simp
/-- No letter can be dropped. -/
def Falls (rk : Int → Int) (w : List Int) : Prop := w.Pairwise fun x y => rk y < rk x
theorem falls_iff : ∀ {w : List Int}, Falls rk w ↔ ∀ x, ¬ DropOf rk w x
  | [] => by
    refine ⟨fun _ x h => ?_, fun _ => List.Pairwise.nil⟩
    obtain ⟨i, hi, _⟩ := h; simp at hi
  | [x] => by
    refine ⟨fun _ x h => ?_, fun _ => List.pairwise_singleton _ _⟩
    obtain ⟨i, hi, _⟩ := h; simp at hi
  | x :: y :: w => by
    have ih := falls_iff (w := y :: w)
    constructor
    · intro h u hd
      have h' := List.pairwise_cons.1 h
      obtain ⟨p, s, t, v, e, hr, rfl⟩ := dropOf_parts.1 hd
      cases p with
      | nil =>
        simp at e
        obtain ⟨rfl, rfl, rfl⟩ := e
        have := h'.1 y (by simp); omega
      | cons q p =>
        simp at e
        exact ih.1 h'.2 _ (dropOf_parts.2 ⟨p, s, t, v, e.2, hr, rfl⟩)
    · intro h
      have hy : Falls rk (y :: w) := ih.2 fun u hu => h (x :: u) (hu.under (w := [x]))
      have hxy : rk y < rk x := by
        refine Classical.byContradiction fun hc => h (y :: w) (dropOf_parts.2 ⟨[], x, y, w, rfl, by omega, rfl⟩)
      refine List.pairwise_cons.2 ⟨fun z hz => ?_, hy⟩
      rcases List.mem_cons.1 hz with e | e
      · rw [e]; exact hxy
      · have := (List.pairwise_cons.1 hy).1 z e; omega

/-- All letters from one place on, and before another one, have at most the rank of the letter there. -/
def Cov (rk : Int → Int) (b : List Int) (from_ p : Nat) : Prop := ∀ k, from_ ≤ k → k < p → rk (b.getD k 0) ≤ rk (b.getD p 0)
open Classical in
/-- The least places of letters in a word, from one place on. -/
noncomputable def srch (rk : Int → Int) : List Int → List Int → Nat → Option (List Int)
  | [], b, from_ => if from_ = b.length then some [] else none
  | x :: a, b, from_ => (List.range b.length).findSome? fun p => if from_ ≤ p ∧ b.getD p 0 = x ∧ Cov rk b from_ p then (srch rk a b (p + 1)).map fun q => (p : Int) :: q else none
open Classical in
noncomputable def sstep (rk : Int → Int) (x : Int) (a b : List Int) (from_ p : Nat) : Option (List Int) :=
  if from_ ≤ p ∧ b.getD p 0 = x ∧ Cov rk b from_ p then (srch rk a b (p + 1)).map fun q => (p : Int) :: q else none
theorem srch_cons {x : Int} {a b : List Int} {from_ : Nat} : srch rk (x :: a) b from_ = (List.range b.length).findSome? (sstep rk x a b from_) := rfl
theorem findSome_at {α : Type} {f : Nat → Option α} : ∀ {n k : Nat}, (∀ d, d < k → f d = none) → k < n → (f k).isSome = true → (List.range n).findSome? f = f k := fun {n k} h hk hs => by
  have e : List.range n = List.range k ++ (k :: (List.range (n - k - 1)).map (· + (k + 1))) := by
    refine List.ext_getElem (by simp; omega) fun i h1 h2 => ?_
    simp only [List.getElem_range]
    by_cases hi : i < k
    · rw [List.getElem_append_left (by simpa using hi)]; simp
    · rw [List.getElem_append_right (by simp; omega)]
      simp only [List.length_range]
      rcases Nat.eq_or_lt_of_le (Nat.le_of_not_lt hi) with rfl | hlt
      · simp
      · obtain ⟨j, rfl⟩ : ∃ j, i = k + 1 + j := ⟨i - k - 1, by omega⟩
        simp only [show k + 1 + j - k = j + 1 by omega, List.getElem_cons_succ, List.getElem_map, List.getElem_range]
        omega
  rw [e, List.findSome?_append, List.findSome?_eq_none_iff.2 (fun x hx => h x (List.mem_range.1 hx)), Option.none_or, List.findSome?_cons]
  obtain ⟨v, hv⟩ := Option.isSome_iff_exists.1 hs
  rw [hv]
theorem findSome_none {α : Type} {f : Nat → Option α} {n : Nat} (h : ∀ d, d < n → f d = none) : (List.range n).findSome? f = none :=
  List.findSome?_eq_none_iff.2 fun x hx => h x (List.mem_range.1 hx)
theorem sstep_no {x : Int} {a b : List Int} {from_ p : Nat} (h : ¬ (from_ ≤ p ∧ b.getD p 0 = x ∧ Cov rk b from_ p)) : sstep rk x a b from_ p = none := if_neg h
theorem sstep_yes {x : Int} {a b : List Int} {from_ p : Nat} (h : from_ ≤ p ∧ b.getD p 0 = x ∧ Cov rk b from_ p) : sstep rk x a b from_ p = (srch rk a b (p + 1)).map fun q => (p : Int) :: q := if_pos h
theorem drop_at {b : List Int} {p : Nat} (h : p < b.length) : b.drop p = b.getD p 0 :: b.drop (p + 1) := by
  rw [List.drop_eq_getElem_cons h]; simp [List.getD_eq_getElem?_getD, h]
theorem srch_len : ∀ {a b : List Int} {from_ : Nat} {q : List Int}, srch rk a b from_ = some q → q.length = a.length
  | [], b, from_, q, h => by
    unfold srch at h
    split at h
    · simp only [Option.some.injEq] at h; subst h; rfl
    · cases h
  | x :: a, b, from_, q, h => by
    rw [srch_cons] at h
    obtain ⟨p, hp, h2⟩ := List.exists_of_findSome?_eq_some h
    unfold sstep at h2
    split at h2
    · obtain ⟨q', h3, rfl⟩ := Option.map_eq_some_iff.1 h2
      simp [srch_len h3]
    · cases h2
theorem srch_ple : ∀ (a b : List Int) (from_ : Nat), from_ ≤ b.length → ((srch rk a b from_).isSome = true ↔ PLe rk a (b.drop from_))
  | [], b, from_, hf => by
    unfold srch PLe
    rw [List.drop_eq_nil_iff]
    by_cases e : from_ = b.length
    · rw [if_pos e]; simp; omega
    · rw [if_neg e]; simp; omega
  | x :: a, b, from_, hf => by
    rw [srch_cons]
    constructor
    · intro h
      obtain ⟨q, hq⟩ := Option.isSome_iff_exists.1 h
      obtain ⟨p, hp, h2⟩ := List.exists_of_findSome?_eq_some hq
      have hp := List.mem_range.1 hp
      by_cases hc : from_ ≤ p ∧ b.getD p 0 = x ∧ Cov rk b from_ p
      · rw [sstep_yes hc] at h2
        obtain ⟨q', h3, _⟩ := Option.map_eq_some_iff.1 h2
        have h4 := (srch_ple a b (p + 1) (by omega)).1 (by rw [h3]; rfl)
        refine ⟨(b.drop from_).take (p - from_), b.drop (p + 1), ?_, fun y hy => ?_, h4⟩
        · have e1 : (b.drop from_).drop (p - from_) = b.drop p := by rw [List.drop_drop]; congr 1; omega
          have e2 := drop_at hp
          rw [hc.2.1] at e2
          rw [← e2, ← e1, List.take_append_drop]
        · obtain ⟨i, hi, rfl⟩ := mem_getD (d := 0) hy
          have hi2 : i < p - from_ := by rw [List.length_take] at hi; omega
          have := hc.2.2 (from_ + i) (by omega) (by omega)
          rw [hc.2.1] at this
          have e : ((b.drop from_).take (p - from_)).getD i 0 = b.getD (from_ + i) 0 := by simp [List.getD_eq_getElem?_getD, List.getElem?_take, hi2, List.getElem?_drop]
          rw [e]; exact this
      · rw [sstep_no hc] at h2; cases h2
    · rintro ⟨pre, rest, e, h1, h2⟩
      have hlen : b.length = from_ + pre.length + 1 + rest.length := by
        have := congrArg List.length e
        simp at this; omega
      have hg : ∀ i, b.getD (from_ + i) 0 = (pre ++ x :: rest).getD i 0 := fun i => by rw [← e]; simp [List.getD_eq_getElem?_getD, List.getElem?_drop]
      have hx : b.getD (from_ + pre.length) 0 = x := by rw [hg, getD_append_right' _ _ _ (Nat.le_refl _), Nat.sub_self]; rfl
      have hc : from_ ≤ from_ + pre.length ∧ b.getD (from_ + pre.length) 0 = x ∧ Cov rk b from_ (from_ + pre.length) := by
        refine ⟨by omega, hx, fun k hk1 hk2 => ?_⟩
        obtain ⟨i, rfl⟩ : ∃ i, k = from_ + i := ⟨k - from_, by omega⟩
        rw [hx, hg, getD_append_left' _ _ _ (by omega)]
        exact h1 _ (getD_mem (by omega))
      have hr : b.drop (from_ + pre.length + 1) = rest := by
        rw [Nat.add_assoc, ← List.drop_drop, e, show pre ++ x :: rest = (pre ++ [x]) ++ rest by simp, List.drop_left']; simp
      have hs := (srch_ple a b (from_ + pre.length + 1) (by omega)).2 (by rw [hr]; exact h2)
      have : (sstep rk x a b from_ (from_ + pre.length)).isSome = true := by rw [sstep_yes hc, Option.isSome_map]; exact hs
      rw [List.findSome?_isSome_iff]
      exact ⟨_, List.mem_range.2 (by omega), this⟩
end
end Go.Proofs.Ytmjnicikikgncaa
