/- Contracts of functions of the program, for all arguments that they name. -/
import Derived.Test.YtikhhnopcjgjpaaGreatK08
namespace Go.Proofs.YtikhhnopcjgjpaaGreat
set_option linter.unusedVariables false
section
open Go.RowKit
set_option maxHeartbeats 2000000
theorem qg1 {k s d : Int} {rs : List Int} {ps : List Ty} (hk : k = 3) (h : qar (.mk k s rs ps) d = true) : qaW ps (d - 1) = true := by
 subst hk; exact (qdr h).1
def rowOf (k : Int) (ps : List Ty) (ks : List V) : List V := if k = 3 then qcW ps ks else if k = 4 then qes ps ks else if k = 5 then qes ps ks else ks
theorem qc7 (k s n : Int) (rs : List Int) (ps : List Ty) (ks : List V) : qch (.mk k s rs ps) (.mk n ks) = .mk n (if k = 5 then (qce [] (rowOf k ps ks)).reverse else rowOf k ps ks) := by
 simp only [qch, V.n, V.kids, rowOf, qce]
 by_cases h3 : k = 3
 ·simp [h3]
 ·by_cases h4 : k = 4
  ·simp [h4]
  ·by_cases h5 : k = 5
   ·simp [h5]
   ·simp [h3, h4, h5]
theorem qj1 (k : Int) (ps : List Ty) (ks : List V) : (rowOf k ps ks).length = ks.length := by
 have : (qes ps ks).length = ks.length := by cases ps <;> simp [qes]
 unfold rowOf; split
 ·exact qdX ps ks
 ·split
  ·exact this
  ·split
   ·exact this
   ·rfl
theorem qoP (k : Int) (ps : List Ty) (ks : List V) (h : ∀ v ∈ ks, v.fit) : ∀ v ∈ rowOf k ps ks, v.fit := by
 unfold rowOf; split
 ·exact qhi ps ks h
 ·split
  ·exact (qdW ps ks h).2
  ·split
   ·exact (qdW ps ks h).2
   ·exact h
set_option maxHeartbeats 4000000 in
theorem qeS : ∀ (t : Ty) (v : V) (d : Int), t.fit → v.fit → qar t d = true → TP Tryz.prog 68 [qal t, encV v] (encV (qch t v))
 | .mk k s rs ps, .mk N ks, d, ht, hv, hval => by
  obtain ⟨hf1, hf2, hf3⟩ := Ty.fit_all ht
  have hv' := V.fit_kids hv
  simp only [V.kids] at hv'
  have hcopy := ql8 N ks hv
  refine qak fn68 (by simp) ?_
  unfold i68
  simp only [argL, encV, qal]
  refine wN ?_
  refine wR0 0 [2,3,4] cJ0 ?_
  refine wN ?_
  cases ks with
  | nil =>
   simp only [rowT, rowH] at hcopy
   apply W_r 100 [2, 4, 5] (by rfl)
   ·refine rN cJ0 ?_
    apply qgk [] []
    ·rfl
    ·exact eV cJ0
    ·exact fun p hp => by cases hp
    ·exact hcopy
    ·exact fun p hp => by cases hp
    ·exact fun p hp => by cases hp
    ·simp [clL, T.cl]
    refine rN cJ0 ?_
    exact rFi
   ·exact eV cJ0
   simp only [thn]
   have hr0 : rowOf k ps [] = [] := List.eq_nil_of_length_eq_zero (qj1 k ps [])
   have es : qch (.mk k s rs ps) (.mk N []) = .mk N [] := by rw [qc7, hr0]; split <;> rfl
   have hd : decide ((0 : Int) < 0) = false := rfl
   have hd1 : decide ((1 : Int) < 0) = false := rfl
   refine wR0 200 [2,4,5,6] cJ0 ?_
   refine wN ?_
   refine qbF ?_
   refine qaa qdH.eq_1 ?_
   refine wN ?_
   refine wR0 300 [2,4,5,6,15] @hd ?_
   refine wN ?_
   refine qae (eV cJ0) ?_
   simp only [Bool.false_eq_true, if_false]
   refine wN ?_
   refine qbp ?_
   (try simp only [thn, inB, if_true])
   refine wR0 900 [4,5,67] cJ0 ?_
   refine wN ?_
   rcases k5b : (k != 5) with _ | _
   ·refine qae (eV cJ0) ?_
    simp only [Bool.false_eq_true, if_false]
    refine wN ?_
    refine wR0 1100 [4,5,7] cJ0 ?_
    refine wN ?_
    refine qbF ?_
    refine qaa qjA.eq_1 ?_
    refine wN ?_
    refine wR0 1200 [4,5,7,73] @hd1 ?_
    refine wN ?_
    refine qae (eV cJ0) ?_
    simp only [Bool.false_eq_true, if_false]
    refine wN ?_
    refine qbp ?_
    (try simp only [thn, inB, if_true])
    refine wR0 1800 [4] cJ0 ?_
    refine wN ?_
    refine qaC ?_
    exact ⟨by simp, _, rfl, by rw [es]; exact qaV .nil rfl⟩
   ·refine qae (eV cJ0) ?_
    simp only [if_true]
    refine wN ?_
    refine wR0 1000 [4] cJ0 ?_
    refine wN ?_
    refine qaC ?_
    exact ⟨by simp, _, rfl, by rw [es]; exact qaV .nil rfl⟩
  | cons u ks =>
   simp only [rowT, rowH] at hcopy
   apply W_r 100 [2, 4, 5] (by rfl)
   ·refine rN cJ0 ?_
    apply qgk [] [(409, .live ⟨25, qao (u :: ks)⟩)]
    ·rfl
    ·exact eV cJ0
    ·exact fun p hp => by cases hp
    ·exact hcopy
    ·simp
    ·simp [hpL]
    ·simp [clL, T.cl]
    refine rN cJ0 ?_
    exact rFi
   ·exact eV cJ0
   simp only [thn]
   have hn0 : ks.length + 1 ≤ 1000000 := by simpa using hv'.1
   have hRl := qj1 k ps (u :: ks)
   have hRf := qoP k ps (u :: ks) hv'.2
   obtain ⟨r, R', hR⟩ : ∃ r R', rowOf k ps (u :: ks) = r :: R' := by
    cases hx : rowOf k ps (u :: ks) with
    | nil => rw [hx] at hRl; simp at hRl
    | cons r R' => exact ⟨r, R', rfl⟩
   rw [hR] at hRl hRf
   refine wR0 200 [2,4,5,6] cJ0 ?_
   refine wN ?_
   refine qbF ?_
   by_cases k3 : k = 3
   ·have hX : qcW ps (u :: ks) = r :: R' := by rw [← hR, rowOf, if_pos k3]
    have hvp := qg1 k3 hval
    have hl3 : ∀ t ∈ ps, ∀ v ∈ u :: ks, TP Tryz.prog 68 [qal t, encV v] (encV (qch t v)) := fun t hk v hv1 => qeS t v (d - 1) (hf3 t hk) (hv'.2 v hv1) (qb3 hvp t hk)
    subst k3
    refine qjZ s N rs ps _ (ks.length + 1) hn0 _ (u :: ks) [] ps [] 0 rfl (by simp) rfl (.inl rfl) hl3 ?_
    intro i
    simp only [inB, if_true, thn, List.nil_append, hX]
    refine wR0 900 [4,5,67] cJ0 ?_
    refine wN ?_
    by_cases k5 : (3 : Int) = 5
    ·have k5b : ((3 : Int) != 5) = false := by simp [k5]
     refine qae (eV cJ0) ?_
     simp only [k5b, Bool.false_eq_true, if_false]
     refine wN ?_
     refine wR0 1100 [4,5,7] cJ0 ?_
     refine wN ?_
     refine qbF ?_
     refine qfs N _ _ (ks.length + 1) hn0 _ R' [r] 1 rfl (by simp at hRl ⊢; omega) (fun v hv => hRf v (List.mem_cons_of_mem _ hv)) ?_
     intro j
     simp only [inB, thn, if_true]
     refine wR0 1800 [4] cJ0 ?_
     refine wN ?_
     refine qaC ?_
     exact ⟨by simp, _, rfl, by rw [qc7, if_pos k5, hR]; exact qaV (qb8 (qce [r] R').reverse rfl (by rw [List.length_reverse, qb5]; simp at hRl ⊢; omega) (by rw [List.length_reverse, qb5]; simp at hRl ⊢; omega)) rfl⟩
    ·have k5b : ((3 : Int) != 5) = true := by simp
     refine qae (eV cJ0) ?_
     simp only [k5b, if_true]
     refine wN ?_
     refine wR0 1000 [4] cJ0 ?_
     refine wN ?_
     refine qaC ?_
     exact ⟨by simp, _, rfl, by rw [qc7, if_neg k5, hR]; exact qaV (qb8 (r :: R') rfl (by simp at hRl ⊢; omega) (by simp at hRl ⊢; omega)) rfl⟩
   by_cases k45 : k = 4 ∨ k = 5
   ·obtain ⟨p, hp, hvp⟩ := qem k45 hval
    have hk : p ∈ ps := by simp [hp]
    have hX : (u :: ks).map (qch p) = r :: R' := by
     rw [← hR, rowOf, if_neg k3, hp]; rcases k45 with h | h <;> simp [h, qes]
    refine qoU k s N k45 rs ps p hp (u :: ks) (ks.length + 1) hn0 _ (u :: ks) [] 0 rfl (by simp) (fun v hv1 => qeS p v (d - 1) (hf3 p hk) (hv'.2 v hv1) hvp) ?_
    intro i
    simp only [inB, if_true, thn, List.nil_append, hX]
    refine wR0 900 [4,5,67] cJ0 ?_
    refine wN ?_
    by_cases k5 : k = 5
    ·have k5b : (k != 5) = false := by simp [k5]
     refine qae (eV cJ0) ?_
     simp only [k5b, Bool.false_eq_true, if_false]
     refine wN ?_
     refine wR0 1100 [4,5,7] cJ0 ?_
     refine wN ?_
     refine qbF ?_
     refine qfs N _ _ (ks.length + 1) hn0 _ R' [r] 1 rfl (by simp at hRl ⊢; omega) (fun v hv => hRf v (List.mem_cons_of_mem _ hv)) ?_
     intro j
     simp only [inB, thn, if_true]
     refine wR0 1800 [4] cJ0 ?_
     refine wN ?_
     refine qaC ?_
     exact ⟨by simp, _, rfl, by rw [qc7, if_pos k5, hR]; exact qaV (qb8 (qce [r] R').reverse rfl (by rw [List.length_reverse, qb5]; simp at hRl ⊢; omega) (by rw [List.length_reverse, qb5]; simp at hRl ⊢; omega)) rfl⟩
    ·have k5b : (k != 5) = true := by simp [k5]
     refine qae (eV cJ0) ?_
     simp only [k5b, if_true]
     refine wN ?_
     refine wR0 1000 [4] cJ0 ?_
     refine wN ?_
     refine qaC ?_
     exact ⟨by simp, _, rfl, by rw [qc7, if_neg k5, hR]; exact qaV (qb8 (r :: R') rfl (by simp at hRl ⊢; omega) (by simp at hRl ⊢; omega)) rfl⟩
   ·have hX : u :: ks = r :: R' := by
     rw [← hR, rowOf, if_neg k3, if_neg (fun h => k45 (.inl h)), if_neg (fun h => k45 (.inr h))]
    have hR := hR
    rw [hX] at hR
    refine qo3 k s N k3 (fun h => k45 (.inl h)) (fun h => k45 (.inr h)) rs ps _ (ks.length + 1) _ hn0 _ (ks.length + 1) 0 (by omega) ?_
    intro i
    simp only [inB, if_true, thn, hX]
    refine wR0 900 [4,5,67] cJ0 ?_
    refine wN ?_
    by_cases k5 : k = 5
    ·have k5b : (k != 5) = false := by simp [k5]
     refine qae (eV cJ0) ?_
     simp only [k5b, Bool.false_eq_true, if_false]
     refine wN ?_
     refine wR0 1100 [4,5,7] cJ0 ?_
     refine wN ?_
     refine qbF ?_
     refine qfs N _ _ (ks.length + 1) hn0 _ R' [r] 1 rfl (by simp at hRl ⊢; omega) (fun v hv => hRf v (List.mem_cons_of_mem _ hv)) ?_
     intro j
     simp only [inB, thn, if_true]
     refine wR0 1800 [4] cJ0 ?_
     refine wN ?_
     refine qaC ?_
     exact ⟨by simp, _, rfl, by rw [qc7, if_pos k5, hR]; exact qaV (qb8 (qce [r] R').reverse rfl (by rw [List.length_reverse, qb5]; simp at hRl ⊢; omega) (by rw [List.length_reverse, qb5]; simp at hRl ⊢; omega)) rfl⟩
    ·have k5b : (k != 5) = true := by simp [k5]
     refine qae (eV cJ0) ?_
     simp only [k5b, if_true]
     refine wN ?_
     refine wR0 1000 [4] cJ0 ?_
     refine wN ?_
     refine qaC ?_
     exact ⟨by simp, _, rfl, by rw [qc7, if_neg k5, hR]; exact qaV (qb8 (r :: R') rfl (by simp at hRl ⊢; omega) (by simp at hRl ⊢; omega)) rfl⟩
termination_by t => SizeOf.sizeOf t
decreasing_by all_goals exact qeD hk k s rs
def v0 : V := .mk 0 []
def qbM (t : Ty) (v : V) : V × Int :=
 if qar t 8 = false then (v0, 6) else if qbw v 128 > 128 then (v0, 5) else if qa3 t (qch t v) = false then (v0, 5) else (qch t v, 0)
theorem qga {H : Heap} {a c : Int} {x : T} {v : V} {p : V × Int} (hp : p = (v, c)) (hc : a = c) (h : Frz H x (encV v)) : Frz H (.tup [x, .int .i64 a]) (.tup [encV p.1, .int .i64 p.2]) := by
 subst hp hc
 refine Frz.tup rfl fun i hi => ?_
 match i, hi with
 | 0, _ => exact h
 | 1, _ => exact .same rfl
set_option maxHeartbeats 1000000 in
theorem qfp (t : Ty) (v : V) (ht : t.fit) (hv : v.fit) : TP Tryz.prog 39 [qal t, encV v] (.tup [encV (qbM t v).1, .int .i64 (qbM t v).2]) := by
 rcases t with ⟨k, s, rs, ps⟩
 rcases v with ⟨N, ks⟩
 refine qak fn39 (by simp) ?_
 unfold i39
 simp only [argL, encV, qal]
 refine wN ?_
 refine wR0 0 [2,3,4] cJ0 ?_
 refine wN ?_
 refine wRn 100 [2,3,4,6] cJ0 ?_
 refine rC cJ0 ?_
 refine ⟨_, qeR (.mk k s rs ps) ht, rE cJ0 ?_⟩
 refine wN ?_
 refine wR0 200 [2,3,4,6,11] cJ0 ?_
 refine wN ?_
 rcases h1 : qar (.mk k s rs ps) 8 with _ | _
 ·have hc : qbo (.mk k s rs ps) = 6 := by simp [qbo, h1]
  have hcb : (qbo (.mk k s rs ps) != 0) = true := by rw [hc]; rfl
  refine qae (eV cJ0) ?_
  simp only [hcb, if_true]
  refine wN ?_
  refine wR0 300 [4,5] cJ0 ?_
  refine wN ?_
  refine qaC ?_
  exact ⟨by simp, _, rfl, qga (v := v0) (by simp only [qbM, h1, if_true]) hc (qaV .nil rfl)⟩
 have hc : qbo (.mk k s rs ps) = 0 := by simp [qbo, h1]
 have hcb : (qbo (.mk k s rs ps) != 0) = false := by rw [hc]; rfl
 refine qae (eV cJ0) ?_
 simp only [hcb, Bool.false_eq_true, if_false]
 refine wN ?_
 refine wRn 400 [2,3,4,16] cJ0 ?_
 refine rC cJ0 ?_
 refine ⟨_, qeK (.mk N ks) 128 hv (by omega) (by omega), rE cJ0 ?_⟩
 refine wN ?_
 rcases h2 : decide (qbw (.mk N ks) 128 > 128) with _ | _
 ·have h2' : ¬ qbw (.mk N ks) 128 > 128 := of_decide_eq_false h2
  refine qae (eV cJ0) ?_
  simp only [Bool.false_eq_true, if_false]
  refine wN ?_
  have hsv := qeS (.mk k s rs ps) (.mk N ks) 8 ht hv h1
  have hsf := qeZ (.mk k s rs ps) (.mk N ks) hv
  rcases hs : qch (.mk k s rs ps) (.mk N ks) with ⟨N', ks'⟩
  rw [hs] at hsv hsf
  refine wRn 600 [2,4,7] @encV.eq_1 ?_
  refine rC @encV.eq_1 ?_
  refine ⟨_, hsv, rE @encV.eq_1 ?_⟩
  refine wN ?_
  refine wRn 700 [4,7,24] cJ0 ?_
  refine rC cJ0 ?_
  refine ⟨_, qcP (.mk k s rs ps) (.mk N' ks') ht hsf, rE cJ0 ?_⟩
  refine wN ?_
  rcases h3 : qa3 (.mk k s rs ps) (.mk N' ks') with _ | _
  ·refine qae (eV cJ0) ?_
   simp only [Bool.not_false, if_true]
   refine wN ?_
   refine wR0 800 [4,5] cJ0 ?_
   refine wN ?_
   refine qaC ?_
   exact ⟨by simp, _, rfl, qga (v := v0) (by simp only [qbM, h1, hs, h3, if_neg h2', if_true, Bool.true_eq_false, if_false]) rfl (qaV .nil rfl)⟩
  ·refine qae (eV cJ0) ?_
   simp only [Bool.not_true, Bool.false_eq_true, if_false]
   refine wN ?_
   refine wR0 900 [4,5] cJ0 ?_
   refine wN ?_
   refine qaC ?_
   exact ⟨by simp, _, rfl, qga (v := .mk N' ks') (by simp only [qbM, h1, hs, h3, if_neg h2', Bool.true_eq_false, if_false]) rfl (.same (qcT _ (.mk N' ks')))⟩
 ·have h2' : qbw (.mk N ks) 128 > 128 := of_decide_eq_true h2
  refine qae (eV cJ0) ?_
  simp only [if_true]
  refine wN ?_
  refine wR0 500 [4,5] cJ0 ?_
  refine wN ?_
  refine qaC ?_
  exact ⟨by simp, _, rfl, qga (v := v0) (by simp only [qbM, h1, if_pos h2', Bool.true_eq_false, if_false]) rfl (qaV .nil rfl)⟩
end
end Go.Proofs.YtikhhnopcjgjpaaGreat
