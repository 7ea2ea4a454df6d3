/- The walk of word.Proves. -/
import Derived.Test.YtfhommegkogahaaEmbed
import Derived.IntWalk
namespace Go.Proofs.Ytfhommegkogahaa
set_option linter.unusedVariables false
open Go.RowKit

/-- The i-th place is one of the i-th letter, behind the one before. -/
def PlAt (a b p : List Int) (i : Nat) : Prop := 0 ≤ p.getD i 0 ∧ p.getD i 0 < b.length ∧ b.getD (p.getD i 0).toNat 0 = a.getD i 0 ∧ (0 < i → p.getD (i - 1) 0 < p.getD i 0)
def WPlaces (a b p : List Int) : Prop := p.length = a.length ∧ ∀ i, i < a.length → PlAt a b p i
def WProves (a b p : List Int) : Prop := WValid a ∧ WValid b ∧ WPlaces a b p
open Classical in
noncomputable def wprB (a b p : List Int) : Bool := decide (WProves a b p)
theorem wprB_true {a b p : List Int} : wprB a b p = true ↔ WProves a b p := by simp [wprB]
theorem wprB_false {a b p : List Int} : wprB a b p = false ↔ ¬ WProves a b p := by simp [wprB]

set_option maxRecDepth 100000 in
set_option maxHeartbeats 4000000 in
theorem proves_is {w : World} {l : List Nat} {av bv pv : Value} {a b p : List Int} (ha : IsI w l av a) (hb : IsI w l bv b) (hp : IsI w l pv p) (hn : a.length ≤ 1000000) (hm : b.length ≤ 1000000) (ho : p.length ≤ 1000000) : Calls Try.prog 23 #[av, bv, pv] w (RetB (wprB a b p) w) := by
  unfold RetB
  obtain ⟨A, c, rfl, _, _, h1⟩ := ha.open
  obtain ⟨B, c', rfl, _, _, h2⟩ := hb.open
  obtain ⟨C, c2, rfl, _, _, h3⟩ := hp.open
  have hma := valid_is ha hn
  have hmb := fun W (k : Keeps [] w W) => valid_is (IsI.new hb k) hm
  by_cases hva : WValid a
  · rw [wvB_true.2 hva] at hma
    by_cases hvb : WValid b
    · rw [wvB_true.2 hvb] at hmb
      by_cases hl : p.length = a.length
      · rw [hl] at h3 ⊢
        generalize hna : a.length = n at *
        generalize hnb : b.length = m at *
        have H1 := Lib.hid h1
        have H2 := Lib.hid h2
        have H3 := Lib.hid h3
        have HNA := Lib.hid hna
        have HNB := Lib.hid hnb
        have HA := Lib.hid ha
        have HB := Lib.hid hb
        have HP := Lib.hid hp
        have HMA := Lib.hid hma
        have HMB := Lib.hid hmb
        have HVA := Lib.hid hva
        have HVB := Lib.hid hvb
        have HL := Lib.hid hl
        clear h1 h2 h3 hna hnb ha hb hp hma hmb hva hvb hl
        go_enter Try.func23, Try.ntmps23
        go_wp2_with fail
        refine HMA.out.mono ?_
        rintro e w1 ⟨rfl, hk1⟩
        have hcb := HMB.out w1 hk1
        have HCB := Lib.hid hcb
        have HK1 := Lib.hid hk1
        clear hcb hk1
        go_wp2_with fail
        refine HCB.out.mono ?_
        rintro e w2 ⟨rfl, hk2⟩
        have hk2 := HK1.out.trans hk2
        have HK2 := Lib.hid hk2
        clear hk2
        go_wp2_with fail
        go_loopg [7, 8, 26] (n + 1) (fun gh _ _ iv wr => ∃ i : Nat, n + 1 ≤ i + gh ∧ i ≤ n ∧ iv = .int .i64 (i : Int) ∧ (∀ r, r < i → PlAt a b p r) ∧ Keeps [] w2 wr)
        case atStart => exact ⟨0, by omega, by omega, rfl, fun r hr => by omega, Keeps.refl _ _⟩
        case round =>
          obtain ⟨i, hgh, hi, rfl, hs, hkr⟩ := hrel
          have HS := Lib.hid hs
          have HKR := Lib.hid hkr
          clear hs hkr
          by_cases hlt : i < n
          · have hkw := (HK2.out.trans HKR.out).nil l
            obtain ⟨pa, rfl, hpa⟩ := (H1.out.keeps hkw).at_ hlt
            obtain ⟨pc, rfl, hpc⟩ := (H3.out.keeps hkw).at_ hlt
            have H2r := Lib.hid (H2.out.keeps hkw)
            have H3r := Lib.hid (H3.out.keeps hkw)
            generalize hx : p.getD i 0 = x at *
            generalize hz : a.getD i 0 = z at *
            have HX := Lib.hid hx
            have HZ := Lib.hid hz
            clear hx hz
            clear hkw
            by_cases c1 : x < 0
            · have hf := wprB_false.2 (fun h : WProves a b p => absurd (h.2.2.2 i (by rw [HNA.out]; exact hlt)) (by rw [PlAt, HX.out]; intro h; omega))
              have HF := Lib.hid hf
              clear hf
              go_wp2_with fail
              go_quiet (fail)
              go_wp2_with fail
              go_ret
              exact ⟨ret_bo HF.out.symm, (HK2.out.trans HKR.out).drewN _⟩
            · obtain ⟨q, rfl⟩ : ∃ q : Nat, x = (q : Int) := ⟨x.toNat, by omega⟩
              by_cases c2 : q < m
              · obtain ⟨pb, rfl, hpb⟩ := H2r.out.at_ c2
                generalize hy : b.getD q 0 = y at *
                have HY := Lib.hid hy
                clear hy
                have d1 : decide ((q : Int) < 0) = false := by simp
                have d2 : decide (m ≤ q) = false := by simp; omega
                have d2' : decide ((m : Int) ≤ (q : Int)) = false := by simp; omega
                by_cases c3 : y = z
                · have d3 : (y != z) = false := by simpa using c3
                  have C3 := Lib.hid c3
                  clear c3
                  by_cases c4 : i = 0
                  · subst c4
                    have d4 : decide ((0 : Int) < ((0 : Nat) : Int)) = false := by simp
                    replace hpc : wr.cell? pc = some (.int .i64 (q : Int)) := by simpa [Addr.add] using hpc
                    replace hpa : wr.cell? pa = some (.int .i64 z) := by simpa [Addr.add] using hpa
                    go_wp2_with fail
                    go_quiet (fail)
                    go_wp2_with fail
                    go_roundg (n - 0)
                    case measure => omega
                    case rel => exact ⟨0 + 1, by omega, by omega, by go_num, fun r hr => by
                      by_cases e : r = 0
                      · subst e; exact ⟨by rw [HX.out]; omega, by rw [HX.out, HNB.out]; omega, by rw [HX.out, HZ.out, Int.toNat_natCast, HY.out]; exact C3.out, by omega⟩
                      · exact HS.out r (by omega), HKR.out.drewN _⟩
                  · have hp1 : (0 : Int) < (i : Int) := by omega
                    obtain ⟨pc2, hpce, hpc2⟩ := H3r.out.at_ (i := i - 1) (by omega)
                    injection hpce with hpce
                    subst hpce
                    generalize hu : p.getD (i - 1) 0 = u at *
                    have HU := Lib.hid hu
                    clear hu
                    have hq1 : (1 : Int) ≤ (i : Int) := by omega
                    have hq2 : (0 : Int) ≤ (i : Int) - 1 := by omega
                    have hq3 : (i : Int) - 1 < (n : Int) := by omega
                    have hq4 : (i : Int) ≤ (n : Int) := by omega
                    have hq5 : i - 1 < n := by omega
                    have hq6 : 0 < i := by omega
                    have d4 : decide ((0 : Int) < (i : Int)) = true := by simp; omega
                    have d4' : decide (0 < i) = true := by simp; omega
                    by_cases c5 : (q : Int) ≤ u
                    · have d5 : decide ((q : Int) ≤ u) = true := by simp; omega
                      have hf := wprB_false.2 (fun h : WProves a b p => absurd (h.2.2.2 i (by rw [HNA.out]; exact hlt)) (by rw [PlAt, HX.out, HU.out]; intro h; have := h.2.2.2 hq6; omega))
                      have hw1 : IntKind.i64.wrap ((i : Int) - 1) = (i : Int) - 1 := IntWalk.i64_in _ (by omega)
                      have hw2 : ((i : Int) - 1).toNat = i - 1 := by omega
                      have HF := Lib.hid hf
                      clear hf
                      go_wp2_with fail
                      go_quiet (fail)
                      clear hw1 hw2
                      go_wp2_with fail
                      go_ret
                      exact ⟨ret_bo HF.out.symm, (HK2.out.trans HKR.out).drewN _⟩
                    · have d5 : decide ((q : Int) ≤ u) = false := by simp; omega
                      have hw1 : IntKind.i64.wrap ((i : Int) - 1) = (i : Int) - 1 := IntWalk.i64_in _ (by omega)
                      have hw2 : ((i : Int) - 1).toNat = i - 1 := by omega
                      go_wp2_with fail
                      go_quiet (fail)
                      clear hw1 hw2
                      go_wp2_with fail
                      go_roundg (n - i)
                      case measure => omega
                      case rel => exact ⟨i + 1, by omega, by omega, by go_num, fun r hr => by
                        by_cases e : r = i
                        · subst e; exact ⟨by rw [HX.out]; omega, by rw [HX.out, HNB.out]; omega, by rw [HX.out, HZ.out, Int.toNat_natCast, HY.out]; exact C3.out, by rw [HX.out, HU.out]; omega⟩
                        · exact HS.out r (by omega), HKR.out.drewN _⟩
                · have d3 : (y != z) = true := by simpa using c3
                  have C3 := Lib.hid c3
                  clear c3
                  have hf := wprB_false.2 (fun h : WProves a b p => absurd (h.2.2.2 i (by rw [HNA.out]; exact hlt)) (by rw [PlAt, HX.out, HZ.out, Int.toNat_natCast, HY.out]; exact fun h => C3.out h.2.2.1))
                  have HF := Lib.hid hf
                  clear hf
                  go_wp2_with fail
                  go_quiet (fail)
                  go_wp2_with fail
                  go_ret
                  exact ⟨ret_bo HF.out.symm, (HK2.out.trans HKR.out).drewN _⟩
              · have d1 : decide ((q : Int) < 0) = false := by simp
                have d2 : decide (m ≤ q) = true := by simp; omega
                have d2' : decide ((m : Int) ≤ (q : Int)) = true := by simp; omega
                have hf := wprB_false.2 (fun h : WProves a b p => absurd (h.2.2.2 i (by rw [HNA.out]; exact hlt)) (by rw [PlAt, HX.out, HNB.out]; intro h; omega))
                have HF := Lib.hid hf
                clear hf
                go_wp2_with fail
                go_quiet (fail)
                go_wp2_with fail
                go_ret
                exact ⟨ret_bo HF.out.symm, (HK2.out.trans HKR.out).drewN _⟩
          · obtain rfl : i = n := by omega
            have hf := wprB_true.2 (⟨HVA.out, HVB.out, HL.out.trans HNA.out.symm, fun i hi => HS.out i (by rw [HNA.out] at hi; exact hi)⟩ : WProves a b p)
            have HF := Lib.hid hf
            clear hf
            go_wp2_with fail
            go_ret
            exact ⟨ret_bo HF.out.symm, HK2.out.trans HKR.out⟩
      · have hf := wprB_false.2 (fun h : WProves a b p => hl h.2.2.1)
        have hne : ((p.length : Int) != (a.length : Int)) = true := by rw [bne_iff_ne]; omega
        generalize a.length = n at *
        generalize b.length = m at *
        generalize p.length = k at *
        have H1 := Lib.hid h1
        have H2 := Lib.hid h2
        have H3 := Lib.hid h3
        have HA := Lib.hid ha
        have HB := Lib.hid hb
        have HP := Lib.hid hp
        have HMA := Lib.hid hma
        have HMB := Lib.hid hmb
        have HVA := Lib.hid hva
        have HVB := Lib.hid hvb
        have HL := Lib.hid hl
        have HF := Lib.hid hf
        clear h1 h2 h3 ha hb hp hma hmb hva hvb hl hf
        go_enter Try.func23, Try.ntmps23
        go_wp2_with fail
        refine HMA.out.mono ?_
        rintro e w1 ⟨rfl, hk1⟩
        have hcb := HMB.out w1 hk1
        have HCB := Lib.hid hcb
        have HK1 := Lib.hid hk1
        clear hcb hk1
        go_wp2_with fail
        refine HCB.out.mono ?_
        rintro e w2 ⟨rfl, hk2⟩
        have hk2 := HK1.out.trans hk2
        have HK2 := Lib.hid hk2
        clear hk2
        go_wp2_with fail
        go_ret
        exact ⟨ret_bo HF.out.symm, HK2.out⟩
    · rw [wvB_false.2 hvb] at hmb
      have hf := wprB_false.2 (fun h : WProves a b p => hvb h.2.1)
      generalize a.length = n at *
      generalize b.length = m at *
      generalize p.length = k at *
      have H1 := Lib.hid h1
      have H2 := Lib.hid h2
      have H3 := Lib.hid h3
      have HA := Lib.hid ha
      have HB := Lib.hid hb
      have HP := Lib.hid hp
      have HMA := Lib.hid hma
      have HMB := Lib.hid hmb
      have HVA := Lib.hid hva
      have HVB := Lib.hid hvb
      have HF := Lib.hid hf
      clear h1 h2 h3 ha hb hp hma hmb hva hvb hf
      go_enter Try.func23, Try.ntmps23
      go_wp2_with fail
      refine HMA.out.mono ?_
      rintro e w1 ⟨rfl, hk1⟩
      have hcb := HMB.out w1 hk1
      have HCB := Lib.hid hcb
      have HK1 := Lib.hid hk1
      clear hcb hk1
      go_wp2_with fail
      refine HCB.out.mono ?_
      rintro e w2 ⟨rfl, hk2⟩
      have hk2 := HK1.out.trans hk2
      have HK2 := Lib.hid hk2
      clear hk2
      go_wp2_with fail
      go_ret
      exact ⟨ret_bo HF.out.symm, HK2.out⟩
  · rw [wvB_false.2 hva] at hma
    have hf := wprB_false.2 (fun h : WProves a b p => hva h.1)
    generalize a.length = n at *
    generalize b.length = m at *
    generalize p.length = k at *
    have H1 := Lib.hid h1
    have H2 := Lib.hid h2
    have H3 := Lib.hid h3
    have HA := Lib.hid ha
    have HB := Lib.hid hb
    have HP := Lib.hid hp
    have HMA := Lib.hid hma
    have HMB := Lib.hid hmb
    have HVA := Lib.hid hva
    have HF := Lib.hid hf
    clear h1 h2 h3 ha hb hp hma hmb hva hf
    go_enter Try.func23, Try.ntmps23
    go_wp2_with fail
    refine HMA.out.mono ?_
    rintro e w1 ⟨rfl, hk1⟩
    have HK1 := Lib.hid hk1
    clear hk1
    go_wp2_with fail
    go_ret
    exact ⟨ret_bo HF.out.symm, HK1.out⟩
end Go.Proofs.Ytfhommegkogahaa
