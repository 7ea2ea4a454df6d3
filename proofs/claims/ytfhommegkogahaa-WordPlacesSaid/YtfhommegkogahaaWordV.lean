/- The walks of word.Valid, word.Compare and sorted. -/
import Derived.Test.YtfhommegkogahaaAny
import Derived.Test.YtfhommegkogahaaSliI
import Derived.Test.YtfhommegkogahaaSortO
import Derived.Test.YtfhommegkogahaaCompact
import Derived.Test.YtfhommegkogahaaPutL
import Derived.Test.YtfhommegkogahaaSorts
namespace Go.Proofs.Ytfhommegkogahaa
set_option linter.unusedVariables false
open Go.RowKit

def WValid (a : List Int) : Prop := a.length ≤ 12 ∧ ∀ x ∈ a, 0 ≤ x ∧ x < 16
open Classical in
noncomputable def wvB (a : List Int) : Bool := decide (WValid a)
theorem wvB_true {a : List Int} : wvB a = true ↔ WValid a := by simp [wvB]
theorem wvB_false {a : List Int} : wvB a = false ↔ ¬ WValid a := by simp [wvB]

def badL (x : Int) : Bool := decide (x < 0 ∨ 16 ≤ x)
theorem badL_true {x : Int} : badL x = true ↔ x < 0 ∨ 16 ≤ x := by simp [badL]
theorem badL_false {x : Int} : badL x = false ↔ ¬ (x < 0 ∨ 16 ≤ x) := by unfold badL; exact decide_eq_false_iff_not
set_option maxHeartbeats 400000 in
theorem valid_lit {w : World} {l : List Nat} {xs : List Int} : PredR IsN 0 36 #[] l xs (fun i => badL (xs.getD i 0)) w := by
  intro W i u hi hk hu
  have hu : u = .int .i64 (xs.getD i 0) := hu
  subst hu
  show Calls Try.prog 36 #[.int .i64 (xs.getD i 0)] W fun e w' => e = .returned (.bool (badL (xs.getD i 0))) ∧ Keeps [] W w'
  generalize xs.getD i 0 = x
  by_cases h1 : x < 0
  · have hd : Hid (badL x = true) := badL_true.2 (.inl h1)
    go_enter Try.func36, Try.ntmps36
    go_wp2_with fail
    go_ret
    exact ⟨ret_bo hd.out.symm, Keeps.refl _ _⟩
  · by_cases h2 : 16 ≤ x
    · have hd : Hid (badL x = true) := badL_true.2 (.inr h2)
      go_enter Try.func36, Try.ntmps36
      go_wp2_with fail
      go_ret
      exact ⟨ret_bo hd.out.symm, Keeps.refl _ _⟩
    · have hd : Hid (badL x = false) := badL_false.2 (by omega)
      go_enter Try.func36, Try.ntmps36
      go_wp2_with fail
      go_ret
      exact ⟨ret_bo hd.out.symm, Keeps.refl _ _⟩

set_option maxHeartbeats 400000 in
theorem valid_is {w : World} {l : List Nat} {v : Value} {a : List Int} (h : IsI w l v a) (hn : a.length ≤ 1000000) : Calls Try.prog 15 #[v] w (RetB (wvB a) w) := by
  unfold RetB
  obtain ⟨A, c, rfl, _, _, h1⟩ := h.open
  have eg := enters_of Try.func36 (by kernel_rfl) rfl
  by_cases h12 : a.length ≤ 12
  · have hco := anr_ints h hn eg (valid_lit (w := w) (l := l) (xs := a))
    generalize hnn : a.length = n at *
    have H := Lib.hid h
    have H1 := Lib.hid h1
    have HNN := Lib.hid hnn
    have HCO := Lib.hid hco
    clear h h1 hnn hco
    clear eg
    go_enter Try.func15, Try.ntmps15
    go_wp2_with fail
    refine HCO.out.mono ?_
    rintro e w1 ⟨r, rfl, hr, hk⟩
    have HR := Lib.hid hr
    have HK := Lib.hid hk
    clear hr hk
    go_wp2_with fail
    go_ret
    refine ⟨ret_bo ?_, HK.out⟩
    have hiff : r = true ↔ ¬ WValid a := by
      rw [HR.out]
      constructor
      · rintro ⟨i, hi, hp⟩ hv
        have := hv.2 _ (getD_mem (d := 0) (show i < a.length by rw [HNN.out]; exact hi))
        have hp := badL_true.1 hp
        omega
      · intro hv
        refine Classical.byContradiction fun hno => hv ⟨by rw [HNN.out]; exact h12, fun x hx => ?_⟩
        obtain ⟨i, hi, e⟩ := mem_getD (d := 0) hx
        rw [HNN.out] at hi
        refine Classical.byContradiction fun hx' => hno ⟨i, hi, ?_⟩
        refine badL_true.2 ?_; rw [e]; omega
    cases r with
    | true => exact (wvB_false.2 (hiff.1 rfl)).symm
    | false => exact (wvB_true.2 (Classical.byContradiction fun hc => by have := hiff.2 hc; cases this)).symm
  · have hv : Hid (wvB a = false) := wvB_false.2 fun h => h12 h.1
    generalize a.length = n at *
    have H := Lib.hid h
    have H1 := Lib.hid h1
    clear h h1
    clear eg
    go_enter Try.func15, Try.ntmps15
    go_wp2_with fail
    go_ret
    exact ⟨ret_bo hv.out.symm, Keeps.refl _ _⟩

def Grew (v : Value) (w : World) (e : Ending) (w' : World) : Prop := e = .returned v ∧ ∃ q os, w' = Sort.grow (w.drewN q) os
theorem Grew.keeps {w w' : World} (h : ∃ q os, w' = Sort.grow (w.drewN q) os) : Keeps [] w w' := by
  obtain ⟨q, os, rfl⟩ := h
  refine ⟨rfl, rfl, rfl, by simp [Sort.grow, World.drewN], fun k hk _ => ?_⟩
  exact Sort.heap_grow_old (w.drewN q) os hk

set_option maxHeartbeats 400000 in
theorem compare_word {w : World} {l : List Nat} {av bv : Value} {a b : List Int} (ha : IsI w l av a) (hb : IsI w l bv b) (hn : a.length ≤ 1000000) (hm : b.length ≤ 1000000) : Calls Try.prog 17 #[av, bv] w (Grew (.int .i64 (cmpL a b)) w) := by
  unfold Grew
  obtain ⟨A, c, rfl, _, _, h1⟩ := ha.open
  obtain ⟨B, c', rfl, _, _, h2⟩ := hb.open
  have hcm := cmpL_or a b
  generalize hna : a.length = n at *
  generalize hnb : b.length = m at *
  have H1 := Lib.hid h1
  have H2 := Lib.hid h2
  have HNA := Lib.hid hna
  have HNB := Lib.hid hnb
  have HA := Lib.hid ha
  have HB := Lib.hid hb
  have HCM := Lib.hid hcm
  clear h1 h2 hna hnb ha hb hcm
  go_enter Try.func17, Try.ntmps17
  go_wp2_with fail
  refine (cmp_any n m w).mono ?_
  rintro e w1 ⟨rfl, q1, rfl⟩
  go_wp2_with fail
  refine Calls.mono (scompare_is HA.out.now HB.out.now (by rw [HNA.out]; exact hn) (by rw [HNB.out]; exact hm)) ?_
  rintro e w1 ⟨rfl, q2, rfl⟩
  generalize hx : ord n m = x at *
  generalize hy : lexS a b = y at *
  have HX := Lib.hid hx
  have HY := Lib.hid hy
  clear hx hy
  go_wp2_with fail
  have hor : IsI ((w.drewN (q1 + q2)).alloc (.cells #[.int .i64 x, .int .i64 y] 3)) [] (.slice (some ⟨w.heap.size, 0, none⟩) 2 2) [x, y] :=
    isL_new (xs := [x, y]) (w := w.drewN (q1 + q2)) (l := []) (by simp) rfl fun i hi => by
      have : i = 0 ∨ i = 1 := by simp at hi; omega
      rcases this with rfl | rfl <;> rfl
  refine Calls.mono (or_is hor (by simp)) ?_
  rintro e w1 ⟨rfl, q3, rfl⟩
  have hz : orL [x, y] = cmpL a b := HCM.out
  rw [hz]
  have HZ := Lib.hid hz
  clear hz
  clear hor
  go_wp2_with fail
  go_ret
  refine ⟨rfl, q1 + q2 + q3, #[.cells #[.int .i64 x, .int .i64 y] 3], ?_⟩
  rw [Sort.alloc_eq_grow, ← World.drewN_drewN (w := w) (q1 + q2) q3]; rfl

theorem cmpL_le {a b : List Int} : ¬ cmpL a b < 0 ↔ cmpL b a ≤ 0 := by have := cmpL_swap a b; omega
theorem cmpL_total {a b : List Int} (h : ¬ cmpL a b < 0) : a = b ∨ cmpL b a < 0 := by
  by_cases e : cmpL a b = 0
  · exact .inl (cmpL_zero.1 e)
  · exact .inr (by have := cmpL_swap a b; omega)
theorem cmpL_swo : Sort.SWO (ltOf cmpL) := by
  refine ⟨fun x => by simp [ltOf, cmpL_self], fun x y z h1 h2 => ?_, fun x y z h1 h2 => ?_⟩
  · simp only [ltOf, decide_eq_true_iff] at *; exact cmpL_trans h1 h2
  · simp only [ltOf, decide_eq_false_iff_not] at *
    rcases cmpL_total h1 with rfl | h3
    · exact h2
    · rcases cmpL_total h2 with rfl | h4
      · exact h1
      · have := cmpL_trans h4 h3
        have := cmpL_swap x z
        omega

/-- What sorting and compacting leave: the same words, ascending. -/
theorem compL_asc {xs : List (List Int)} (h : xs.Pairwise fun a b => ¬ cmpL b a < 0) : Asc (compL (fun a b => decide (a = b)) [] xs) ∧ ∀ x, x ∈ compL (fun a b => decide (a = b)) [] xs ↔ x ∈ xs := by
  have hle : ∀ i j, i ≤ j → j < xs.length → ¬ cmpL (xs.getD j []) (xs.getD i []) < 0 := fun i j hij hj => by
    rcases Nat.eq_or_lt_of_le hij with rfl | hlt
    · rw [cmpL_self]; omega
    · have := List.pairwise_iff_getElem.1 h i j (by omega) hj hlt
      simpa [List.getD_eq_getElem?_getD, hj, show i < xs.length by omega] using this
  constructor
  · unfold compL Asc
    rw [List.pairwise_map]
    refine List.Pairwise.imp_of_mem ?_ ((List.pairwise_lt_range (n := xs.length)).filter _)
    intro i j hi hj hij
    have hj2 := List.mem_filter.1 hj
    have hjn := List.mem_range.1 hj2.1
    have hne : xs.getD j [] ≠ xs.getD (j - 1) [] := by
      have := hj2.2
      simp only [Bool.or_eq_true, decide_eq_true_iff, Bool.not_eq_true', decide_eq_false_iff_not] at this
      rcases this with h0 | h0
      · omega
      · exact h0
    have h1 := hle i (j - 1) (by omega) (by omega)
    have h2 := hle (j - 1) j (by omega) hjn
    rcases cmpL_total h2 with e | h3
    · exact absurd e hne
    · rcases cmpL_total h1 with e | h4
      · rw [← e]; exact h3
      · exact cmpL_trans h4 h3
  · intro x
    unfold compL
    rw [List.mem_map]
    constructor
    · rintro ⟨j, hj, rfl⟩
      exact getD_mem (keptI_lt hj)
    · intro hx
      obtain ⟨i, hi, rfl⟩ := mem_getD (d := []) hx
      have : ∀ i, i < xs.length → ∃ j, j ∈ keptI (fun a b => decide (a = b)) [] xs xs.length ∧ xs.getD j [] = xs.getD i [] := by
        intro i
        induction i with
        | zero => exact fun h0 => ⟨0, List.mem_filter.2 ⟨List.mem_range.2 h0, by simp⟩, rfl⟩
        | succ i ih =>
          intro hi
          by_cases e : xs.getD (i + 1) [] = xs.getD i []
          · obtain ⟨j, h1, h2⟩ := ih (by omega)
            exact ⟨j, h1, by rw [h2, e]⟩
          · exact ⟨i + 1, List.mem_filter.2 ⟨List.mem_range.2 hi, by
              have hd : decide (xs.getD (i + 1) [] = xs.getD (i + 1 - 1) []) = false := decide_eq_false e
              show (_ || !(decide (xs.getD (i + 1) [] = xs.getD (i + 1 - 1) []))) = true
              rw [hd]; simp⟩, rfl⟩
      exact this i hi

theorem cmpR_word {l : List Nat} {xs : List (List Int)} {w : World} {b : Nat} (hx : ∀ x ∈ xs, x.length ≤ 1000000) : CmpR Try.prog IsI 17 #[] l cmpL xs w b := by
  intro W u u' x y h1 h2 hk hu hu'
  show Calls Try.prog 17 #[u, u'] W (Grew (.int .i64 (cmpL x y)) W)
  exact compare_word hu hu' (hx x h1) (hx y h2)
theorem eqR_rows {l : List Nat} {xs : List (List Int)} {w : World} {b : Nat} (hx : ∀ x ∈ xs, x.length ≤ 1000000) : EqR IsI 51 #[] l (fun a b => decide (a = b)) xs w b := by
  intro W u u' x y h1 h2 hk hu hu'
  show Calls Try.prog 51 #[u, u'] W (Quiet (.bool (decide (x = y))) W)
  exact equal_is hu hu' (hx x h1) (hx y h2)

def SortedPost (ty base : Nat) (l : List Nat) (v : Value) (xs : List (List Int)) (w : World) (e : Ending) (w' : World) : Prop :=
  ∃ A c ys, e = .returned (.slice A (ys : List (List Int)).length c) ∧ Asc ys ∧ (∀ x, x ∈ ys ↔ x ∈ xs) ∧ OwL IsI [] ty base w' l (.slice A ys.length c) ys ∧ Keeps v.ownBlock.toList w w'

set_option maxHeartbeats 1000000 in
theorem sorted_is {w : World} {base : Nat} {l : List Nat} {v : Value} {xs : List (List Int)} (h : OwL IsI [] 22 base w l v xs) (hn : xs.length ≤ 1000000) (hx : ∀ x ∈ xs, x.length ≤ 1000000) :
    Calls Try.prog 31 #[v] w (SortedPost 22 base l v xs w) := by
  unfold SortedPost
  obtain ⟨A, c, rfl⟩ := h.slice
  have egc := enters_of Try.func17 (by kernel_rfl) rfl
  have ege := enters_of Try.func51 (by kernel_rfl) rfl
  have hsort := sort_own Try.sorts49 cmpL_swo egc h (cb := #[]) (fun b hb => cmpR_word hx) (by omega)
  change Calls Try.prog 49 _ _ _ at hsort
  generalize hnn : xs.length = n at *
  have H := Lib.hid h
  have HX := Lib.hid hx
  have HSORT := Lib.hid hsort
  have HNN := Lib.hid hnn
  have EGE := Lib.hid ege
  clear h hx hsort hnn ege
  clear egc
  go_enter Try.func31, Try.ntmps31
  go_wp2_with fail
  refine HSORT.out.mono ?_
  rintro e w1 ⟨rfl, ys, hp, hs, hO, hk⟩
  have hyl : ys.length = n := by rw [hp.length_eq, HNN.out]
  have hcomp := compact_rows hO (by omega) EGE.out (cb := #[]) (eq := fun a b => decide (a = b)) (fun b hb => eqR_rows fun x hx => HX.out x (hp.mem_iff.1 hx))
  have hasc := compL_asc hs
  clear hs
  have HP := Lib.hid hp
  have HO := Lib.hid hO
  have HK := Lib.hid hk
  have HCOMP := Lib.hid hcomp
  have HYL := Lib.hid hyl
  have HASC := Lib.hid hasc
  clear hp hO hk hcomp hyl hasc
  go_wp2_with fail
  refine HCOMP.out.mono ?_
  rintro e w2 ⟨A', c', rfl, hO2, hk2⟩
  generalize compL (fun a b => decide (a = b)) [] ys = zs at *
  have HO2 := Lib.hid hO2
  have HK2 := Lib.hid hk2
  clear hO2 hk2
  go_wp2_with fail
  go_ret
  exact ⟨A', c', zs, rfl, HASC.out.1, fun x => (HASC.out.2 x).trans HP.out.mem_iff, HO2.out, HK.out.trans HK2.out⟩
end Go.Proofs.Ytfhommegkogahaa
