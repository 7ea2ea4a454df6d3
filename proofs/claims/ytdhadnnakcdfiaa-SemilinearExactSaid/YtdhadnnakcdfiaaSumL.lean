/- Plain law: sums of vectors of two sets are in the sum of the sets, shifted ones in the shifted set. -/
import Derived.Test.YtdhadnnakcdfiaaSum
import Derived.Test.YtdhadnnakcdfiaaLPeriods
namespace Go.Proofs.Ytdhadnnakcdfiaa
set_option linter.unusedVariables false
open Go.RowKit

theorem comb_add : ∀ {P : List (List Int)} {t : List Int} {k i : Nat} {x : Int}, t.length = P.length → k < t.length → comb P (t.set k (t.getD k 0 + x)) i = comb P t i + x * (P.getD k []).getD i 0
  | [], t, k, i, x, h, hk => by rw [h] at hk; simp at hk
  | p :: P, [], k, i, x, h, hk => by simp at hk
  | p :: P, y :: t, 0, i, x, h, hk => by
    simp only [List.getD_cons_zero, List.set_cons_zero, comb]
    rw [Int.add_mul]; omega
  | p :: P, y :: t, k + 1, i, x, h, hk => by
    simp only [List.getD_cons_succ, List.set_cons_succ, comb]
    rw [comb_add (by simpa using h) (by simpa using hk)]; omega
theorem set_nn {t : List Int} {k : Nat} {x : Int} (h : ∀ y ∈ t, 0 ≤ y) (hx : 0 ≤ x) : ∀ y ∈ t.set k x, 0 ≤ y := fun y hy => by
  rcases List.mem_or_eq_of_mem_set hy with h1 | h1
  · exact h y h1
  · omega
theorem comb_zero {P : List (List Int)} : ∀ {i : Nat}, comb P (List.replicate P.length 0) i = 0 := by
  induction P with
  | nil => intro i; simp [comb]
  | cons p P ih => intro i; simp only [List.length_cons, List.replicate_succ, comb]; rw [ih]; simp
/-- Multiples of periods, as multiples of a list that has these periods. -/
theorem comb_into {zs : List (List Int)} : ∀ {P : List (List Int)} {t : List Int}, (∀ p ∈ P, p ∈ zs) → t.length = P.length → (∀ x ∈ t, 0 ≤ x) → ∃ t' : List Int, t'.length = zs.length ∧ (∀ x ∈ t', 0 ≤ x) ∧ ∀ i, comb zs t' i = comb P t i
  | [], [], _, _, _ => ⟨List.replicate zs.length 0, by simp, fun x hx => by rw [List.eq_of_mem_replicate hx]; exact Int.le_refl 0, fun i => by rw [comb_zero]; simp [comb]⟩
  | [], _ :: _, _, h, _ => by simp at h
  | _ :: _, [], _, h, _ => by simp at h
  | p :: P, x :: t, hP, hl, ht => by
    obtain ⟨t', h1, h2, h3⟩ := comb_into (P := P) (t := t) (fun q hq => hP q (List.mem_cons_of_mem _ hq)) (by simpa using hl) (fun y hy => ht y (List.mem_cons_of_mem _ hy))
    obtain ⟨k, hk, e⟩ := mem_getD (d := []) (hP p (List.mem_cons_self ..))
    have hx := ht x (List.mem_cons_self ..)
    have hk' : k < t'.length := by omega
    have h0 : 0 ≤ t'.getD k 0 := getD_nn h2 k
    refine ⟨t'.set k (t'.getD k 0 + x), by rw [List.length_set, h1], set_nn h2 (by omega), fun i => ?_⟩
    rw [comb_add h1 hk', h3, e]
    simp only [comb]; omega
theorem comb_app : ∀ {P Q : List (List Int)} {t u : List Int} {i : Nat}, t.length = P.length → comb (P ++ Q) (t ++ u) i = comb P t i + comb Q u i
  | [], Q, [], u, i, _ => by simp [comb]
  | [], _, _ :: _, _, _, h => by simp at h
  | _ :: _, _, [], _, _, h => by simp at h
  | p :: P, Q, x :: t, u, i, h => by
    simp only [List.cons_append, comb]
    rw [comb_app (by simpa using h)]; omega

theorem sum_good {n : Nat} {a b : Lin} {zs : List (List Int)} (h : SumOk (n : Int) a b zs) (hb : a.base.length = n) : Good n ⟨addV a.base b.base, zs⟩ := by
  have ga : Good n a := by simpa using h.ga.all a (by simp)
  have gb : Good n b := by simpa using h.gb.all b (by simp)
  have hz : ∀ p ∈ zs, PerOk n p := fun p hp => by
    rcases (h.mem p).1 hp with h1 | h1
    · exact ga.per p h1
    · exact gb.per p h1
  refine ⟨⟨by rw [addV_len, hb], h.rng⟩, hz, h.few, fun i h1 h2 => asc_ord h.asc (fun p hp => (hz p hp).len) h1 h2⟩
theorem good_all {n : Nat} {s : Lin} (h : Good n s) (h1 : 1 ≤ n) (h4 : n ≤ 4) : GoodAll (n : Int) [s] := ⟨by omega, by omega, by simp, fun x hx => by rw [List.mem_singleton.1 hx]; simpa using h⟩
theorem good_n {n : Nat} {s : Lin} (h : Good n s) (h1 : 1 ≤ n) (h4 : n ≤ 4) : GoodN s := by
  have := h.base.len
  unfold GoodN; rw [this]; exact good_all h h1 h4

/-- x made of a with multiples t, y of b with multiples u; v their sum. -/
theorem sum_in {n : Nat} {a b : Lin} {zs : List (List Int)} {t u v : List Int} (h1 : 1 ≤ n) (h4 : n ≤ 4) (ha : Small4 n a) (hb : Small4 n b) (h : SumOk (n : Int) a b zs) (htl : t.length = a.per.length) (hul : u.length = b.per.length) (ht : ∀ x ∈ t, 0 ≤ x ∧ x ≤ 1) (hu : ∀ x ∈ u, 0 ≤ x ∧ x ≤ 1) (hv : v.length = n)
    (he : ∀ i, i < n → v.getD i 0 = (madeL a t).getD i 0 + (madeL b u).getD i 0) : HasIn ⟨addV a.base b.base, zs⟩ v := by
  have hal := ha.good.base.len
  have hbl := hb.good.base.len
  have hg := sum_good h hal
  have hma := made_ok ha htl (fun x hx => by have := ht x hx; omega)
  have hmb := made_ok hb hul (fun x hx => by have := hu x hx; omega)
  have hca : ∀ i, 0 ≤ comb a.per t i ∧ comb a.per t i ≤ 12 := fun i => by
    have e1 := comb_nn (fun p hp x hx => (ha.p4 p hp x hx).1) (fun x hx => (ht x hx).1) i
    have e2 := comb_le (n := n) (by omega) (by omega) ha.p4 ht i
    have e3 := ha.good.few
    omega
  have hcb : ∀ i, 0 ≤ comb b.per u i ∧ comb b.per u i ≤ 12 := fun i => by
    have e1 := comb_nn (fun p hp x hx => (hb.p4 p hp x hx).1) (fun x hx => (hu x hx).1) i
    have e2 := comb_le (n := n) (by omega) (by omega) hb.p4 hu i
    have e3 := hb.good.few
    omega
  have hval : ∀ i, i < n → v.getD i 0 = a.base.getD i 0 + comb a.per t i + (b.base.getD i 0 + comb b.per u i) := fun i hi => by
    rw [he i hi, madeL_get htl hal hi, madeL_get hul hbl hi]
  refine ⟨⟨good_n hg h1 h4, by show v.length = (addV a.base b.base).length; rw [addV_len, hal, hv], fun x hx => ?_⟩, ?_⟩
  · obtain ⟨i, hi, e⟩ := mem_getD (d := 0) hx
    rw [hv] at hi
    rw [hval i hi] at e
    have e1 := getD_rng ha.b4 (i := i) (by rw [hal]; exact hi)
    have e2 := getD_rng hb.b4 (i := i) (by rw [hbl]; exact hi)
    have e3 := hca i
    have e4 := hcb i
    omega
  · obtain ⟨t', g1, g2, g3⟩ := comb_into (zs := zs) (P := a.per ++ b.per) (t := t ++ u) (fun p hp => (h.mem p).2 (List.mem_append.1 hp)) (by simp [htl, hul]) (fun x hx => by
      rcases List.mem_append.1 hx with h | h
      · exact (ht x h).1
      · exact (hu x h).1)
    refine ⟨t', g1, g2, fun i hi => ?_⟩
    rw [subm_len] at hi
    rw [subm_get _ _ _ hi]
    show comb zs t' i = v.getD i 0 - 1 * (addV a.base b.base).getD i 0
    rw [hv] at hi
    rw [g3, comb_app htl, addV_get _ _ (by rw [hal]; exact hi), hval i hi]; omega
/-- x made of a with multiples t; v is x shifted. -/
theorem shift_in {n : Nat} {a : Lin} {t by_ v : List Int} (h1 : 1 ≤ n) (h4 : n ≤ 4) (ha : Small4 n a) (hby : by_.length = n) (hb4 : ∀ x ∈ by_, 0 ≤ x ∧ x ≤ 4) (htl : t.length = a.per.length) (ht : ∀ x ∈ t, 0 ≤ x ∧ x ≤ 1) (hv : v.length = n)
    (he : ∀ i, i < n → v.getD i 0 = (madeL a t).getD i 0 + by_.getD i 0) : HasIn ⟨addV a.base by_, a.per⟩ v := by
  have hal := ha.good.base.len
  have hrng : InRng 16 (addV a.base by_) := fun x hx => by
    obtain ⟨i, hi, e⟩ := mem_getD (d := 0) hx
    rw [addV_len] at hi
    rw [addV_get _ _ hi] at e
    have e1 := getD_rng ha.b4 hi
    have e2 := getD_rng hb4 (i := i) (by rw [hby, ← hal]; exact hi)
    omega
  have hg : Good n ⟨addV a.base by_, a.per⟩ := ⟨⟨by rw [addV_len, hal], hrng⟩, ha.good.per, ha.good.few, ha.good.ord⟩
  have hca : ∀ i, 0 ≤ comb a.per t i ∧ comb a.per t i ≤ 12 := fun i => by
    have e1 := comb_nn (fun p hp x hx => (ha.p4 p hp x hx).1) (fun x hx => (ht x hx).1) i
    have e2 := comb_le (n := n) (by omega) (by omega) ha.p4 ht i
    have e3 := ha.good.few
    omega
  have hval : ∀ i, i < n → v.getD i 0 = a.base.getD i 0 + comb a.per t i + by_.getD i 0 := fun i hi => by
    rw [he i hi, madeL_get htl hal hi]
  refine ⟨⟨good_n hg h1 h4, by show v.length = (addV a.base by_).length; rw [addV_len, hal, hv], fun x hx => ?_⟩, t, htl, fun x hx => (ht x hx).1, fun i hi => ?_⟩
  · obtain ⟨i, hi, e⟩ := mem_getD (d := 0) hx
    rw [hv] at hi
    rw [hval i hi] at e
    have e1 := getD_rng ha.b4 (i := i) (by rw [hal]; exact hi)
    have e2 := getD_rng hb4 (i := i) (by rw [hby]; exact hi)
    have e3 := hca i
    omega
  · rw [subm_len] at hi
    rw [subm_get _ _ _ hi]
    show comb a.per t i = v.getD i 0 - 1 * (addV a.base by_).getD i 0
    rw [hv] at hi
    rw [addV_get _ _ (by rw [hal]; exact hi), hval i hi]; omega
end Go.Proofs.Ytdhadnnakcdfiaa
