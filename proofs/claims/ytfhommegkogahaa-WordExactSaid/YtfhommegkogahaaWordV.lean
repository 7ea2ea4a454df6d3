/- The walks of word.Valid, word.Compare and sorted. -/
import Derived.Test.YtfhommegkogahaaAny
import Derived.Test.YtfhommegkogahaaAnyR
import Derived.Test.YtfhommegkogahaaSliX
import Derived.Test.YtfhommegkogahaaWCmp
namespace Go.Proofs.Ytfhommegkogahaa
set_option linter.unusedVariables false
open Go.RowKit

def WValid (a : List Int) : Prop := a.length ≤ 12 ∧ ∀ x ∈ a, 0 ≤ x ∧ x < 16
open Classical in
noncomputable def wvB (a : List Int) : Bool := decide (WValid a)
theorem wvB_true {a : List Int} : wvB a = true ↔ WValid a := by simp [wvB]
theorem wvB_false {a : List Int} : wvB a = false ↔ ¬ WValid a := by simp [wvB]

def badL (x : Int) : Bool := decide (x < 0 ∨ 16 ≤ x)
theorem badL_true {x : Int} : badL x = true ↔ x < 0 ∨ 16 ≤ x := by simp [badL]
theorem badL_false {x : Int} : badL x = false ↔ ¬ (x < 0 ∨ 16 ≤ x) := by unfold badL; exact decide_eq_false_iff_not
set_option maxHeartbeats 400000 in
theorem valid_lit {w : World} {l : List Nat} {xs : List Int} : PredR IsN 0 36 #[] l xs (fun i => badL (xs.getD i 0)) w := by
  intro W i u hi hk hu
  have hu : u = .int .i64 (xs.getD i 0) := hu
  subst hu
  show Calls Try.prog 36 #[.int .i64 (xs.getD i 0)] W fun e w' => e = .returned (.bool (badL (xs.getD i 0))) ∧ Keeps [] W w'
  generalize xs.getD i 0 = x
  by_cases h1 : x < 0
  · have hd : Hid (badL x = true) := badL_true.2 (.inl h1)
    go_enter Try.func36, Try.ntmps36
    go_wp2_with fail
    go_ret
    exact ⟨ret_bo hd.out.symm, Keeps.refl _ _⟩
  · by_cases h2 : 16 ≤ x
    · have hd : Hid (badL x = true) := badL_true.2 (.inr h2)
      go_enter Try.func36, Try.ntmps36
      go_wp2_with fail
      go_ret
      exact ⟨ret_bo hd.out.symm, Keeps.refl _ _⟩
    · have hd : Hid (badL x = false) := badL_false.2 (by omega)
      go_enter Try.func36, Try.ntmps36
      go_wp2_with fail
      go_ret
      exact ⟨ret_bo hd.out.symm, Keeps.refl _ _⟩

set_option maxHeartbeats 400000 in
theorem valid_is {w : World} {l : List Nat} {v : Value} {a : List Int} (h : IsI w l v a) (hn : a.length ≤ 1000000) : Calls Try.prog 15 #[v] w (RetB (wvB a) w) := by
  unfold RetB
  obtain ⟨A, c, rfl, _, _, h1⟩ := h.open
  have eg := enters_of Try.func36 (by kernel_rfl) rfl
  by_cases h12 : a.length ≤ 12
  · have hco := anr_ints h hn eg (valid_lit (w := w) (l := l) (xs := a))
    generalize hnn : a.length = n at *
    have H := Lib.hid h
    have H1 := Lib.hid h1
    have HNN := Lib.hid hnn
    have HCO := Lib.hid hco
    clear h h1 hnn hco
    clear eg
    go_enter Try.func15, Try.ntmps15
    go_wp2_with fail
    refine HCO.out.mono ?_
    rintro e w1 ⟨r, rfl, hr, hk⟩
    have HR := Lib.hid hr
    have HK := Lib.hid hk
    clear hr hk
    go_wp2_with fail
    go_ret
    refine ⟨ret_bo ?_, HK.out⟩
    have hiff : r = true ↔ ¬ WValid a := by
      rw [HR.out]
      constructor
      · rintro ⟨i, hi, hp⟩ hv
        have := hv.2 _ (getD_mem (d := 0) (show i < a.length by rw [HNN.out]; exact hi))
        have hp := badL_true.1 hp
        omega
      · intro hv
        refine Classical.byContradiction fun hno => hv ⟨by rw [HNN.out]; exact h12, fun x hx => ?_⟩
        obtain ⟨i, hi, e⟩ := mem_getD (d := 0) hx
        rw [HNN.out] at hi
        refine Classical.byContradiction fun hx' => hno ⟨i, hi, ?_⟩
        refine badL_true.2 ?_; rw [e]; omega
    cases r with
    | true => exact (wvB_false.2 (hiff.1 rfl)).symm
    | false => exact (wvB_true.2 (Classical.byContradiction fun hc => by have := hiff.2 hc; cases this)).symm
  · have hv : Hid (wvB a = false) := wvB_false.2 fun h => h12 h.1
    generalize a.length = n at *
    have H := Lib.hid h
    have H1 := Lib.hid h1
    clear h h1
    clear eg
    go_enter Try.func15, Try.ntmps15
    go_wp2_with fail
    go_ret
    exact ⟨ret_bo hv.out.symm, Keeps.refl _ _⟩

def SortedPost (ty base : Nat) (l : List Nat) (v : Value) (xs : List (List Int)) (w : World) (e : Ending) (w' : World) : Prop :=
  ∃ A c ys, e = .returned (.slice A (ys : List (List Int)).length c) ∧ Asc ys ∧ (∀ x, x ∈ ys ↔ x ∈ xs) ∧ OwL IsI [] ty base w' l (.slice A ys.length c) ys ∧ Keeps v.ownBlock.toList w w'

set_option maxHeartbeats 1000000 in
theorem sorted_is {w : World} {base : Nat} {l : List Nat} {v : Value} {xs : List (List Int)} (h : OwL IsI [] 22 base w l v xs) (hn : xs.length ≤ 1000000) (hx : ∀ x ∈ xs, x.length ≤ 1000000) :
    Calls Try.prog 31 #[v] w (SortedPost 22 base l v xs w) := by
  unfold SortedPost
  obtain ⟨A, c, rfl⟩ := h.slice
  have egc := enters_of Try.func17 (by kernel_rfl) rfl
  have ege := enters_of Try.func51 (by kernel_rfl) rfl
  have hsort := sort_own Try.sorts49 cmpL_swo egc h (cb := #[]) (fun b hb => cmpR_word hx) (by omega)
  change Calls Try.prog 49 _ _ _ at hsort
  generalize hnn : xs.length = n at *
  have H := Lib.hid h
  have HX := Lib.hid hx
  have HSORT := Lib.hid hsort
  have HNN := Lib.hid hnn
  have EGE := Lib.hid ege
  clear h hx hsort hnn ege
  clear egc
  go_enter Try.func31, Try.ntmps31
  go_wp2_with fail
  refine HSORT.out.mono ?_
  rintro e w1 ⟨rfl, ys, hp, hs, hO, hk⟩
  have hyl : ys.length = n := by rw [hp.length_eq, HNN.out]
  have hcomp := compact_rows hO (by omega) EGE.out (cb := #[]) (eq := fun a b => decide (a = b)) (fun b hb => eqR_rows fun x hx => HX.out x (hp.mem_iff.1 hx))
  have hasc := compL_asc hs
  clear hs
  have HP := Lib.hid hp
  have HO := Lib.hid hO
  have HK := Lib.hid hk
  have HCOMP := Lib.hid hcomp
  have HYL := Lib.hid hyl
  have HASC := Lib.hid hasc
  clear hp hO hk hcomp hyl hasc
  go_wp2_with fail
  refine HCOMP.out.mono ?_
  rintro e w2 ⟨A', c', rfl, hO2, hk2⟩
  generalize compL (fun a b => decide (a = b)) [] ys = zs at *
  have HO2 := Lib.hid hO2
  have HK2 := Lib.hid hk2
  clear hO2 hk2
  go_wp2_with fail
  go_ret
  exact ⟨A', c', zs, rfl, HASC.out.1, fun x => (HASC.out.2 x).trans HP.out.mem_iff, HO2.out, HK.out.trans HK2.out⟩
end Go.Proofs.Ytfhommegkogahaa
