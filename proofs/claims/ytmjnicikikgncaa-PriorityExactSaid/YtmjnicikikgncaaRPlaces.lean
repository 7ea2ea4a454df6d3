/- The walk of the reference's Places. -/
import Derived.Test.YtmjnicikikgncaaStep
import Derived.Test.YtmjnicikikgncaaCmpL
import Derived.Test.YtmjnicikikgncaaNow
import Derived.Deep.QuietTactic
namespace Go.Proofs.Ytmjnicikikgncaa
set_option linter.unusedVariables false
open Go.RowKit

/-- Places: ascending, with the letters of the word. -/
structure PlOf (a b p : List Int) : Prop where
  len : p.length = a.length
  low : ∀ i, i < a.length → 0 ≤ p.getD i 0
  high : ∀ i, i < a.length → p.getD i 0 < b.length
  letter : ∀ i, i < a.length → b.getD (p.getD i 0).toNat 0 = a.getD i 0
  asc : ∀ i, i < a.length → 0 < i → p.getD (i - 1) 0 < p.getD i 0
structure PlTo (a b p : List Int) (k : Nat) : Prop where
  low : ∀ i, i < k → 0 ≤ p.getD i 0
  high : ∀ i, i < k → p.getD i 0 < b.length
  letter : ∀ i, i < k → b.getD (p.getD i 0).toNat 0 = a.getD i 0
  asc : ∀ i, i < k → 0 < i → p.getD (i - 1) 0 < p.getD i 0
open Classical in
noncomputable def plB (a b p : List Int) : Bool := decide (PlOf a b p)
theorem plB_true {a b p : List Int} : plB a b p = true ↔ PlOf a b p := by simp [plB]
theorem plB_false {a b p : List Int} : plB a b p = false ↔ ¬ PlOf a b p := by simp [plB]
theorem PlTo.zero {a b p : List Int} : PlTo a b p 0 := ⟨fun i hi => by omega, fun i hi => by omega, fun i hi => by omega, fun i hi => by omega⟩
theorem PlTo.succ {a b p : List Int} {k : Nat} (h : PlTo a b p k) (h1 : 0 ≤ p.getD k 0) (h2 : p.getD k 0 < b.length) (h3 : b.getD (p.getD k 0).toNat 0 = a.getD k 0) (h4 : 0 < k → p.getD (k - 1) 0 < p.getD k 0) : PlTo a b p (k + 1) := by
  refine ⟨fun i hi => ?_, fun i hi => ?_, fun i hi => ?_, fun i hi h0 => ?_⟩ <;> rcases Nat.lt_or_ge i k with h' | h'
  · exact h.low i h'
  · obtain rfl : i = k := by omega
    exact h1
  · exact h.high i h'
  · obtain rfl : i = k := by omega
    exact h2
  · exact h.letter i h'
  · obtain rfl : i = k := by omega
    exact h3
  · exact h.asc i h' h0
  · obtain rfl : i = k := by omega
    exact h4 h0
theorem PlTo.done {a b p : List Int} (hl : p.length = a.length) (h : PlTo a b p a.length) : PlOf a b p := ⟨hl, h.low, h.high, h.letter, h.asc⟩
set_option maxHeartbeats 1000000 in
theorem places_is {w : World} {l : List Nat} {av bv pv : Value} {a b p : List Int} (ha : IsI w l av a) (hb : IsI w l bv b) (hp : IsI w l pv p) (hn : a.length ≤ 1000000) (hm : b.length ≤ 1000000) (ho : p.length ≤ 1000000) : Calls Try.prog 45 #[av, bv, pv] w (RetB (plB a b p) w) := by
  unfold RetB
  obtain ⟨A, c, rfl, _, _, h1⟩ := ha.open
  obtain ⟨B, c', rfl, _, _, h2⟩ := hb.open
  obtain ⟨C, c2, rfl, _, _, h3⟩ := hp.open
  by_cases hl : p.length = a.length
  · have hdone := PlTo.done (b := b) hl
    rw [hl] at h3 ⊢
    generalize hna : a.length = n at *
    generalize hnb : b.length = m at *
    have H1 := Lib.hid h1
    have H2 := Lib.hid h2
    have H3 := Lib.hid h3
    have HNA := Lib.hid hna
    have HNB := Lib.hid hnb
    have HL := Lib.hid hl
    have HDONE := Lib.hid hdone
    clear h1 h2 h3 hna hnb hl hdone
    clear ha hb hp ho
    go_enter Try.func45, Try.ntmps45
    go_wp2_with fail
    go_loopg [7] (n + 1) (fun gh iv wr => ∃ i : Nat, n + 1 ≤ i + gh ∧ i ≤ n ∧ iv = .int .i64 (i : Int) ∧ PlTo a b p i ∧ Keeps [] w wr)
    case atStart => exact ⟨0, by omega, by omega, rfl, PlTo.zero, Keeps.refl _ _⟩
    case round =>
      obtain ⟨i, hgh, hi, rfl, hs, hkr⟩ := hrel
      have HS := Lib.hid hs
      have HKR := Lib.hid hkr
      clear hs hkr
      by_cases hlt : i < n
      · obtain ⟨pa, rfl, hpa⟩ := (H1.out.keeps (HKR.out.nil l)).at_ hlt
        obtain ⟨pc, rfl, hpc⟩ := (H3.out.keeps (HKR.out.nil l)).at_ hlt
        have hpi : p.getD i 0 = p.getD i 0 := rfl
        generalize hx : p.getD i 0 = x at *
        generalize hz : a.getD i 0 = z at *
        have HX := Lib.hid hx
        have HZ := Lib.hid hz
        clear hx hz
        clear hpi
        by_cases c1 : x < 0
        · have d1 : decide (x < 0) = true := decide_eq_true c1
          have hf : Hid (plB a b p = false) := plB_false.2 fun h => (by have := h.low i (by rw [HNA.out]; exact hlt); rw [HX.out] at this; omega)
          go_wp2_with fail
          go_quiet (fail)
          go_wp2_with fail
          go_ret
          exact ⟨ret_bo hf.out.symm, HKR.out.drewN _⟩
        · obtain ⟨q, rfl⟩ : ∃ q : Nat, x = (q : Int) := ⟨x.toNat, by omega⟩
          have d1 : decide ((q : Int) < 0) = false := decide_eq_false (by omega)
          by_cases c2 : q < m
          · have d2 : decide ((m : Int) ≤ (q : Int)) = false := by simp; omega
            have d2' : decide (m ≤ q) = false := by simp; omega
            obtain ⟨pb, rfl, hpb⟩ := (H2.out.keeps (HKR.out.nil l)).at_ c2
            generalize hy : b.getD q 0 = y at *
            have HY := Lib.hid hy
            clear hy
            by_cases c3 : y = z
            · have d3 : (y != z) = false := by simpa using c3
              by_cases c4 : i = 0
              · have d4 : decide ((0 : Int) < (i : Int)) = false := decide_eq_false (by omega)
                have d4' : decide (0 < i) = false := decide_eq_false (by omega)
                have hsuc := HS.out.succ (by rw [HX.out]; omega) (by rw [HX.out, HNB.out]; omega) (by rw [HX.out, HZ.out, Int.toNat_natCast, HY.out]; exact c3) (fun h => absurd h (by omega))
                have hi0 : ¬ 0 < i := by omega
                clear c4
                have HSUC := Lib.hid hsuc
                clear hsuc
                go_wp2_with fail
                go_quiet (fail)
                go_wp2_with fail
                go_roundg (n - i)
                case measure => omega
                case rel => exact ⟨i + 1, by omega, by omega, by go_num, HSUC.out, HKR.out.drewN _⟩
              · have d4 : decide ((0 : Int) < (i : Int)) = true := by simp; omega
                have d4' : decide (0 < i) = true := by simp; omega
                obtain ⟨pd, epd, hpd⟩ := (H3.out.keeps (HKR.out.nil l)).at_ (show i - 1 < n by omega)
                injection epd with epd
                subst epd
                have hw1 : IntKind.i64.wrap ((i : Int) - 1) = (i : Int) - 1 := IntWalk.i64_in _ (by omega)
                have hw2 : ((i : Int) - 1).toNat = i - 1 := by omega
                have hw3 : (0 : Int) ≤ (i : Int) - 1 := by omega
                have hw4 : (i : Int) - 1 < (n : Int) := by omega
                generalize hu : p.getD (i - 1) 0 = u at *
                have HU := Lib.hid hu
                clear hu
                by_cases c5 : (q : Int) ≤ u
                · have d5 : decide ((q : Int) ≤ u) = true := decide_eq_true c5
                  have hf : Hid (plB a b p = false) := plB_false.2 fun h => (by have := h.asc i (by rw [HNA.out]; exact hlt) (by omega); rw [HX.out, HU.out] at this; omega)
                  go_wp2_with fail
                  go_quiet (fail)
                  go_wp2_with fail
                  go_ret
                  exact ⟨ret_bo hf.out.symm, HKR.out.drewN _⟩
                · have d5 : decide ((q : Int) ≤ u) = false := decide_eq_false c5
                  have hsuc := HS.out.succ (by rw [HX.out]; omega) (by rw [HX.out, HNB.out]; omega) (by rw [HX.out, HZ.out, Int.toNat_natCast, HY.out]; exact c3) (fun h => by rw [HX.out, HU.out]; omega)
                  have HSUC := Lib.hid hsuc
                  clear hsuc
                  go_wp2_with fail
                  go_quiet (fail)
                  go_wp2_with fail
                  go_roundg (n - i)
                  case measure => omega
                  case rel => exact ⟨i + 1, by omega, by omega, by go_num, HSUC.out, HKR.out.drewN _⟩
            · have d3 : (y != z) = true := by simpa using c3
              have hf : Hid (plB a b p = false) := plB_false.2 fun h => (by have := h.letter i (by rw [HNA.out]; exact hlt); rw [HX.out, HZ.out, Int.toNat_natCast, HY.out] at this; exact c3 this)
              go_wp2_with fail
              go_quiet (fail)
              go_wp2_with fail
              go_ret
              exact ⟨ret_bo hf.out.symm, HKR.out.drewN _⟩
          · have d2 : decide ((m : Int) ≤ (q : Int)) = true := by simp; omega
            have d2' : decide (m ≤ q) = true := by simp; omega
            have hf : Hid (plB a b p = false) := plB_false.2 fun h => (by have := h.high i (by rw [HNA.out]; exact hlt); rw [HX.out, HNB.out] at this; omega)
            go_wp2_with fail
            go_quiet (fail)
            go_wp2_with fail
            go_ret
            exact ⟨ret_bo hf.out.symm, HKR.out.drewN _⟩
      · obtain rfl : i = n := by omega
        have hd := plB_true.2 (HDONE.out HS.out)
        have HD := Lib.hid hd
        clear hd
        go_wp2_with fail
        go_ret
        exact ⟨ret_bo HD.out.symm, HKR.out⟩
  · have hf : Hid (plB a b p = false) := plB_false.2 fun h => hl h.len
    have hne : ((p.length : Int) != (a.length : Int)) = true := by rw [bne_iff_ne]; omega
    generalize a.length = n at *
    generalize b.length = m at *
    generalize p.length = k at *
    have H1 := Lib.hid h1
    have H2 := Lib.hid h2
    have H3 := Lib.hid h3
    clear h1 h2 h3
    clear ha hb hp hl
    go_enter Try.func45, Try.ntmps45
    go_wp2_with fail
    go_ret
    exact ⟨ret_bo hf.out.symm, Keeps.refl _ _⟩
end Go.Proofs.Ytmjnicikikgncaa
